/- Parts of the proof, joined and shortened by a program: the plain machine, the functions as it prints them, and the mathematics over them. -/
import Derived.Test.YtkichehglnecnaaGreatDoorY3
import Derived.Test.YtkichehglnecnaaGreatDoorY4
set_option linter.unusedVariables false
set_option linter.unusedSimpArgs false
set_option maxRecDepth 100000
set_option maxHeartbeats 4000000
namespace Go.Proofs.YtkichehglnecnaaGreatDoor
section
open Option renaming some → a6, none → a7
open Tryz
open Go.RowKit
def azv (d:Int):Option uO:=cond (leI 4 d) (a6 ((leI d 12),()))<|some (false,())
def aEh:Sum:=⟨[di],O7,fun x=>azv x.1⟩
theorem anL:dK prog 148 aEh:=qA f148 [] aN
def ahS (e:bW):Option lW:=bF (acN e) fun d=>cond (bT d.1 1) (a6 (97,()))<|cond (bT d.1 2) (a6 (111,()))<|cond (bT d.1 3) (a6 (121,()))<|bF (azv d.1) fun f=>cond f.1 (a6 (60,()))<|cond (!(bT d.1 0)) (cond (gm e 0) (a6 ((bY e 0),())) a7)<|some (63,())
def aEa:Sum:=⟨[.str],[(.int .u8,false)],fun x=>ahS x.1⟩
theorem ant:dK prog 102 aEa:=qA f102 [] (sE UC (sE anL aN))
def Ye (d:bW):Option lW:=cond (gI d [100,111]) (a6 (100,()))<|cond (gI d [100,111,110,101]) (a6 (103,()))<|cond (gI d [102,111,114]) (a6 (114,()))<|cond (gI d [105,110]) (a6 (107,()))<|cond (gI d [99,97,115,101]) (a6 (99,()))<|cond (gI d [101,115,97,99]) (a6 (122,()))<|some (120,())
def Pj (d:bW):Option lW:=cond (gI d [105,102]) (a6 (105,()))<|cond (gI d [116,104,101,110]) (a6 (116,()))<|cond (gI d [101,108,105,102]) (a6 (101,()))<|cond (gI d [101,108,115,101]) (a6 (108,()))<|cond (gI d [102,105]) (a6 (102,()))<|cond (gI d [119,104,105,108,101]) (cond (gI d [119,104,105,108,101]) (a6 (119,()))<|Ye d)<|cond (gI d [117,110,116,105,108]) (a6 (119,()))<|Ye d
def ahT (d:bW):Option lW:=cond (gI d [33]) (cond (gI d [33]) (cond (gm d 0) (a6 ((bY d 0),())) a7)<|Pj d)<|cond (gI d [123]) (cond (gI d [123]) (cond (gm d 0) (a6 ((bY d 0),())) a7)<|Pj d)<|cond (gI d [125]) (cond (gm d 0) (a6 ((bY d 0),())) a7)<|Pj d
def aEb:Sum:=⟨[.str],[(.int .u8,false)],fun x=>ahT x.1⟩
theorem anu:dK prog 103 aEb:=qA f103 [] aN
def afz (d:fJ):Option lW:=cond (bT d.1 2) (a6 (110,()))<|cond (bT d.1 4) (bF (ahS d.2.1) fun e=>a6 (e.1,()))<|cond (bT d.1 5) (a6 (35,()))<|cond (bT d.1 6) (bF (ahT d.2.1) fun e=>a6 (e.1,()))<|some (63,())
def aHR:Sum:=⟨[NJ],[(.int .u8,false)],fun x=>afz x.1⟩
theorem avb:dK prog 64 aHR:=qA f64 [] (sE ant (sE anu aN))
def yA (d:List fJ) (e:Int) (g:List fE) (h i f:Int):Option (((List fJ)×Int×(List fE)×Int×Int×Unit)×lW):=cond (leI (bG d) (bZ .i64 e f)) (a6 ((d,(e,(g,(h,(i,()))))),(0,())))<|cond (gm d (bZ .i64 e f)) (bF (afz (eX d (0,([],(0,(0,())))) (bZ .i64 e f))) fun j=>a6 ((d,(e,(g,(h,(i,()))))),(j.1,()))) a7
def ahf:fF:=⟨117,xX,[di],[.int .u8],fun x y=>yA x.1 x.2.1 x.2.2.1 x.2.2.2.1 x.2.2.2.2.1 y.1⟩
theorem sO:dI prog 153 ahf:=qB [] (sE avb aN)
def VZ (e:List fJ) (f:Int) (g:List fE) (h i:Int) (j:bW):Option taM:=bF (yA e f g h i 0) fun d=>cond (!(bT d.2.1 0)) (bF (acI j d.2.1) fun l=>a6 ((d.1.1,(d.1.2.1,(d.1.2.2.1,(d.1.2.2.2.1,(d.1.2.2.2.2.1,()))))),((leI 0 l.1),())))<|some ((d.1.1,(d.1.2.1,(d.1.2.2.1,(d.1.2.2.2.1,(d.1.2.2.2.2.1,()))))),(false,()))
def auG:fF:=⟨117,xX,[.str],[.bool],fun x y=>VZ x.1 x.2.1 x.2.2.1 x.2.2.2.1 x.2.2.2.2.1 y.1⟩
theorem Ny:dI prog 152 auG:=qB [] (sE Xi aN) (sF sO aN)
def lD (e:List fJ) (f:Int) (g:List fE) (h i:Int) (j:bW):Option taM:=bF (VZ e f g h i j) fun d=>cond (!d.2.1) (a6 ((d.1.1,(d.1.2.1,(d.1.2.2.1,(d.1.2.2.2.1,(d.1.2.2.2.2.1,()))))),(false,())))<|some ((d.1.1,((bZ .i64 d.1.2.1 1),(d.1.2.2.1,(d.1.2.2.2.1,(d.1.2.2.2.2.1,()))))),(true,()))
def xO:fF:=⟨117,xX,[.str],[.bool],fun x y=>lD x.1 x.2.1 x.2.2.1 x.2.2.2.1 x.2.2.2.2.1 y.1⟩
theorem kP:dI prog 106 xO:=qB [] aN (sF Ny aN)
def acJ (f:List fJ) (g:Int) (h:List fE) (i j:Int):Option taM:=bF (yA f g h i j 0) fun d=>cond (bT d.2.1 60) (a6 ((d.1.1,(d.1.2.1,(d.1.2.2.1,(d.1.2.2.2.1,(d.1.2.2.2.2.1,()))))),(true,())))<|cond (bT d.2.1 35) (bF (yA d.1.1 d.1.2.1 d.1.2.2.1 d.1.2.2.2.1 d.1.2.2.2.2.1 1) fun e=>a6 ((e.1.1,(e.1.2.1,(e.1.2.2.1,(e.1.2.2.2.1,(e.1.2.2.2.2.1,()))))),((bT e.2.1 60),())))<|some ((d.1.1,(d.1.2.1,(d.1.2.2.1,(d.1.2.2.2.1,(d.1.2.2.2.2.1,()))))),(false,()))
def aEB:fF:=⟨117,xX,[],[.bool],fun x y=>acJ x.1 x.2.1 x.2.2.1 x.2.2.2.1 x.2.2.2.2.1⟩
theorem Xj:dI prog 203 aEB:=qB [] aN (sF sO aN)
def V5 (f:List fJ) (g:Int) (h:List fE) (i e:Int):Option taM:=cond (iq e 200) (bF (VZ f g h i e [123,40,105,119,114,99]) fun d=>a6 ((d.1.1,(d.1.2.1,(d.1.2.2.1,(d.1.2.2.2.1,(d.1.2.2.2.2.1,()))))),(d.2.1,())))<|some ((f,(g,(h,(i,(e,()))))),(false,()))
def ahh:fF:=⟨117,xX,[],[.bool],fun x y=>V5 x.1 x.2.1 x.2.2.1 x.2.2.2.1 x.2.2.2.2.1⟩
theorem ND:dI prog 204 ahh:=qB [] aN (sF Ny aN)
def acz (g:List fJ) (h:Int) (i:List fE) (j l:Int):Option taM:=bF (yA g h i j l 0) fun d=>cond (bT d.2.1 120) (a6 ((d.1.1,(d.1.2.1,(d.1.2.2.1,(d.1.2.2.2.1,(d.1.2.2.2.2.1,()))))),(true,())))<|bF (acJ d.1.1 d.1.2.1 d.1.2.2.1 d.1.2.2.2.1 d.1.2.2.2.2.1) fun e=>cond e.2.1 (a6 ((e.1.1,(e.1.2.1,(e.1.2.2.1,(e.1.2.2.2.1,(e.1.2.2.2.2.1,()))))),(true,())))<|bF (V5 e.1.1 e.1.2.1 e.1.2.2.1 e.1.2.2.2.1 e.1.2.2.2.2.1) fun f=>a6 ((f.1.1,(f.1.2.1,(f.1.2.2.1,(f.1.2.2.2.1,(f.1.2.2.2.2.1,()))))),(f.2.1,()))
def auH:fF:=⟨117,xX,[],[.bool],fun x y=>acz x.1 x.2.1 x.2.2.1 x.2.2.2.1 x.2.2.2.2.1⟩
theorem Xd:dI prog 154 auH:=qB [] aN (sF sO (sF Xj (sF ND aN)))
def JD (f:List fJ) (g:Int) (h:List fE) (i j:Int):Option taM:=bF (yA f g h i j 0) fun d=>cond (bT d.2.1 33) (a6 ((d.1.1,(d.1.2.1,(d.1.2.2.1,(d.1.2.2.2.1,(d.1.2.2.2.2.1,()))))),(true,())))<|bF (acz d.1.1 d.1.2.1 d.1.2.2.1 d.1.2.2.2.1 d.1.2.2.2.2.1) fun e=>a6 ((e.1.1,(e.1.2.1,(e.1.2.2.1,(e.1.2.2.2.1,(e.1.2.2.2.2.1,()))))),(e.2.1,()))
def Ns:fF:=⟨117,xX,[],[.bool],fun x y=>JD x.1 x.2.1 x.2.2.1 x.2.2.2.1 x.2.2.2.2.1⟩
theorem Bq:dI prog 107 Ns:=qB [] aN (sF sO (sF Xd aN))
noncomputable def aAZ:Code:=(f156.body).getD .skip
noncomputable def ao5:Code:=cA (cA (cA (cB (cB (aAZ)))))
def YG:eG:=⟨[0,3,100002],[],[3],[],[2],[]⟩
def Zf:SQ:=⟨[ct,.u,.u,cg,.u,.u,.u,.u,.u],dc,da⟩
def ZT:SQ:=⟨[.u,.u,.u,cg,.u,.u,.u,.u,.u],dc,da⟩
def aaz:SQ:=⟨us [.u,.u,cg] 6,dc,[]⟩
def Qg {e:Type} (g h:Bool->(List fJ)->Int->Int->Int->(List fE)->Option e) (p:Bool->Option e) (f:Bool) (i:List fJ) (j l m:Int) (o:List fE):Option e:=bF (lD i j o l m [110]) fun d=>cond d.2.1 (g f d.1.1 d.1.2.1 d.1.2.2.2.1 d.1.2.2.2.2.1 d.1.2.2.1)<|h f d.1.1 d.1.2.1 d.1.2.2.2.1 d.1.2.2.2.2.1 d.1.2.2.1
def JZ:Nat->Bool->(List fJ)->Int->Int->Int->(List fE)->Option (ZT.den⊕aaz.den)
 |0,_,_,_,_,_,_=>a7
 |n+1,d,e,f,g,h,i=>Qg (JZ n) (fun j l m o p q=>a6 (.inl ((j,()),((),()),((l,m,o,p,()),q,())))) (fun s=>a6 (.inr ((s,()),((),()),()))) d e f g h i
def axb (n:Nat) (v:Zf.den):=bc (JZ n) v
noncomputable def aiW:dA:=fK YG Zf ZT aaz (.exit 0) (axb bJ) 6
def pq (f:List fJ) (g:Int) (h:List fE) (i j:Int):Option taM:=bF (lD f g h i j [110]) fun d=>bF (JZ bJ d.2.1 d.1.1 d.1.2.1 d.1.2.2.2.1 d.1.2.2.2.2.1 d.1.2.2.1) fun l=>dL l (fun e=>a6 ((e.2.2.1.1,(e.2.2.1.2.1,(e.2.2.2.1,(e.2.2.1.2.2.1,(e.2.2.1.2.2.2.1,()))))),(e.1.1,()))) (fun m=>a7)
def Di:fF:=⟨117,xX,[],[.bool],fun x y=>pq x.1 x.2.1 x.2.2.1 x.2.2.2.1 x.2.2.2.2.1⟩
noncomputable def ae5:Env:=gQ prog tt [] [(156,2,YG)] [(156,2,aiW)] [] [(106,xO)]
def akj {d:Type} (a:Zf.den->Option d) (b:ZT.den->Option d) (c:aaz.den->Option d) (v:Zf.den):Option d:=bc (Qg (bb a) (bb b) (fun e=>c ((e,()),((),()),()))) v
theorem axY:dQ ae5 156 ao5 aiW:=mO (akj) (h2:=by intros;simp only[akj,bb,bc,Qg,cu,cO,bD,bV,cZ])
theorem aB6:dO ae5 156 aAZ:=pI [ao5] (aD (fM (axY)) aN)
theorem alV:eP ae5:=eB aN [156] (aD ⟨f156,aAZ,by kernel_rfl,by kernel_rfl,aB6⟩ aN) (hx:=(aD kP aN))
theorem qM:dI prog 156 Di:=sB alV
def jL:eG:=⟨[0,2,6,7],[],[],[],[],[]⟩
def yC (g:List fJ) (d:Int) (f:List fE) (e h:Int):Option tZ:=cond (bT 18 18) (cond (bT d d) (cond (bT e e) (cond (dV (bM f [(18,(d,(0,(e,()))))]) 32) (cond (bT 18 18) (cond (bT d d) (cond (bT e e) (cond ((bT 18 18)&&((bT d d)&&((bT 0 0)&&((bT e e)&&true)))) (cond (gm (bM f [(18,(d,(0,(e,()))))]) (bG f)) (cond (ni (dw (bG f)) (bM f [(18,(d,(0,(e,()))))])) (a6 ((g,(d,((ik (bM f [(18,(d,(0,(e,()))))]) (dw (bG f)) ((dD (bM f [(18,(d,(0,(e,()))))]) (0,(0,(0,(0,())))) (dw (bG f))).1,((dD (bM f [(18,(d,(0,(e,()))))]) (0,(0,(0,(0,())))) (dw (bG f))).2.1,(d,((dD (bM f [(18,(d,(0,(e,()))))]) (0,(0,(0,(0,())))) (dw (bG f))).2.2.2.1,()))))),(e,(h,()))))),())) a7) a7) a7) a7) a7) a7) a7) a7) a7) a7
def NH:fF:=⟨117,xX,[],[],fun x y=>yC x.1 x.2.1 x.2.2.1 x.2.2.2.1 x.2.2.2.2.1⟩
theorem sQ:dI prog 237 NH:=qB [(237,600000,BU),(67,600003,jL)] aN
def aq5 (d:bW):Option uO:=cond (!(gI d [])) (bF (RN d 0) fun e=>a6 ((bT e.1 (bG d)),()))<|some (false,())
def aAv:Sum:=⟨[.str],O7,fun x=>aq5 x.1⟩
theorem aey:dK prog 89 aAv:=qA f89 [] (sE Nw aN)
def ain (f:List fJ) (g:Int) (h:List fE) (i j:Int):Option taM:=bF (yA f g h i j 0) fun e=>cond (bT e.2.1 120) (bF (yA e.1.1 e.1.2.1 e.1.2.2.1 e.1.2.2.2.1 e.1.2.2.2.2.1 1) fun d=>cond (bT d.2.1 40) (cond (iq d.1.2.2.2.2.1 200) (cond (gm d.1.1 d.1.2.1) (bF (aq5 (eX d.1.1 (0,([],(0,(0,())))) d.1.2.1).2.1) fun l=>a6 ((d.1.1,(d.1.2.1,(d.1.2.2.1,(d.1.2.2.2.1,(d.1.2.2.2.2.1,()))))),(l.1,()))) a7)<|some ((d.1.1,(d.1.2.1,(d.1.2.2.1,(d.1.2.2.2.1,(d.1.2.2.2.2.1,()))))),(false,())))<|some ((d.1.1,(d.1.2.1,(d.1.2.2.1,(d.1.2.2.2.1,(d.1.2.2.2.2.1,()))))),(false,())))<|some ((e.1.1,(e.1.2.1,(e.1.2.2.1,(e.1.2.2.2.1,(e.1.2.2.2.2.1,()))))),(false,()))
def au3:fF:=⟨117,xX,[],[.bool],fun x y=>ain x.1 x.2.1 x.2.2.1 x.2.2.2.1 x.2.2.2.2.1⟩
theorem aok:dI prog 264 au3:=qB [] (sE aey aN) (sF sO aN)
def awH:eG:=⟨[1,2],[],[],[],[],[]⟩
def DV (h:List fJ) (d:Int) (f:List fE) (e i g:Int):Option tZ:=cond (bT g g) (cond (bT d d) (cond (bT e e) (cond (dV (bM f [(g,(d,(0,(e,()))))]) 32) (cond (bT g g) (cond (bT d d) (cond (bT e e) (cond ((bT g g)&&((bT d d)&&((bT 0 0)&&((bT e e)&&true)))) (cond (gm (bM f [(g,(d,(0,(e,()))))]) (bG f)) (cond (ni (dw (bG f)) (bM f [(g,(d,(0,(e,()))))])) (a6 ((h,((bZ .i64 d 1),((ik (bM f [(g,(d,(0,(e,()))))]) (dw (bG f)) ((dD (bM f [(g,(d,(0,(e,()))))]) (0,(0,(0,(0,())))) (dw (bG f))).1,((dD (bM f [(g,(d,(0,(e,()))))]) (0,(0,(0,(0,())))) (dw (bG f))).2.1,((bZ .i64 d 1),((dD (bM f [(g,(d,(0,(e,()))))]) (0,(0,(0,(0,())))) (dw (bG f))).2.2.2.1,()))))),(e,(i,()))))),())) a7) a7) a7) a7) a7) a7) a7) a7) a7) a7
def abC:fF:=⟨117,xX,[di],[],fun x y=>DV x.1 x.2.1 x.2.2.1 x.2.2.2.1 x.2.2.2.2.1 y.1⟩
theorem Gu:dI prog 109 abC:=qB [(109,600001,awH),(67,600003,jL)] aN
def NZ (d:List fJ) (e:Int) (f:List fE) (g h:Int):Option taM:=cond (iq e (bG d)) (cond (gm d e) (a6 ((d,(e,(f,(g,(h,()))))),((bT (eX d (0,([],(0,(0,())))) e).1 6),()))) a7)<|some ((d,(e,(f,(g,(h,()))))),(false,()))
def abK:fF:=⟨117,xX,[],[.bool],fun x y=>NZ x.1 x.2.1 x.2.2.1 x.2.2.2.1 x.2.2.2.2.1⟩
theorem Gz:dI prog 282 abK:=qB [] aN
def NY (f:List fJ) (g:Int) (h:List fE) (i j:Int):Option tZ:=bF (NZ f g h i j) fun d=>cond d.2.1 (bF (DV d.1.1 d.1.2.1 d.1.2.2.1 d.1.2.2.2.1 d.1.2.2.2.2.1 7) fun e=>a6 ((e.1.1,(e.1.2.1,(e.1.2.2.1,(e.1.2.2.2.1,(e.1.2.2.2.2.1,()))))),()))<|bF (yC d.1.1 d.1.2.1 d.1.2.2.1 d.1.2.2.2.1 d.1.2.2.2.2.1) fun e=>a6 ((e.1.1,(e.1.2.1,(e.1.2.2.1,(e.1.2.2.2.1,(e.1.2.2.2.2.1,()))))),())
def abJ:fF:=⟨117,xX,[],[],fun x y=>NY x.1 x.2.1 x.2.2.1 x.2.2.2.1 x.2.2.2.2.1⟩
theorem Gy:dI prog 280 abJ:=qB [] aN (sF Gu (sF sQ (sF Gz aN)))
def aiH:eG:=⟨[1],[],[],[],[],[]⟩
def AA (h:List fJ) (i:Int) (j:List fE) (l m:Int):Option taM:=bF (acJ h i j l m) fun d=>cond (!d.2.1) (a6 ((d.1.1,(d.1.2.1,(d.1.2.2.1,(d.1.2.2.2.1,(d.1.2.2.2.2.1,()))))),(false,())))<|cond (bT 8 8) (cond (bT d.1.2.1 d.1.2.1) (cond (bT d.1.2.2.2.1 d.1.2.2.2.1) (cond (dV (bM d.1.2.2.1 [(8,(d.1.2.1,(0,(d.1.2.2.2.1,()))))]) 32) (cond (bT 8 8) (cond (bT d.1.2.1 d.1.2.1) (cond (bT d.1.2.2.2.1 d.1.2.2.2.1) (cond ((bT 8 8)&&((bT d.1.2.1 d.1.2.1)&&((bT 0 0)&&((bT d.1.2.2.2.1 d.1.2.2.2.1)&&true)))) (bF (lD d.1.1 d.1.2.1 (bM d.1.2.2.1 [(8,(d.1.2.1,(0,(d.1.2.2.2.1,()))))]) (bG d.1.2.2.1) d.1.2.2.2.2.1 [35]) fun f=>bF (lD f.1.1 f.1.2.1 f.1.2.2.1 f.1.2.2.2.1 f.1.2.2.2.2.1 [60]) fun g=>bF (NY g.1.1 g.1.2.1 g.1.2.2.1 g.1.2.2.2.1 g.1.2.2.2.2.1) fun e=>cond (gm e.1.2.2.1 (bG d.1.2.2.1)) (cond (ni (dw (bG d.1.2.2.1)) e.1.2.2.1) (a6 ((e.1.1,(e.1.2.1,((ik e.1.2.2.1 (dw (bG d.1.2.2.1)) ((dD e.1.2.2.1 (0,(0,(0,(0,())))) (dw (bG d.1.2.2.1))).1,((dD e.1.2.2.1 (0,(0,(0,(0,())))) (dw (bG d.1.2.2.1))).2.1,(e.1.2.1,((dD e.1.2.2.1 (0,(0,(0,(0,())))) (dw (bG d.1.2.2.1))).2.2.2.1,()))))),(d.1.2.2.2.1,(e.1.2.2.2.2.1,()))))),(true,()))) a7) a7) a7) a7) a7) a7) a7) a7) a7) a7
def ahk:fF:=⟨117,xX,[],[.bool],fun x y=>AA x.1 x.2.1 x.2.2.1 x.2.2.2.1 x.2.2.2.2.1⟩
theorem Xr:dI prog 279 ahk:=qB [(279,600003,aiH),(67,600003,jL)] aN (sF kP (sF Xj (sF Gy aN)))
def ahY (d:bW):Option (bW×bW×Bool×Unit):=bF (RN d 0) fun e=>cond (bT e.1 0) (a6 ([],([],(false,()))))<|cond (bT e.1 (bG d)) (a6 ([],([],(false,()))))<|cond (gm d e.1) (cond (!(bT (bY d e.1) 61)) (a6 ([],([],(false,()))))<|cond (eU (bG d) 0 e.1) (cond (eU (bG d) (bZ .i64 e.1 1) (bG d)) (a6 ((sub d 0 e.1),((sub d (bZ .i64 e.1 1) (bG d)),(true,())))) a7) a7) a7
def aEf:Sum:=⟨[.str],[(.str,false),(.str,false),(.bool,false)],fun x=>ahY x.1⟩
theorem anJ:dK prog 144 aEf:=qA f144 [] (sE Nw aN)
def aiq (d:bW):Option uO:=bF (ahY d) fun e=>a6 (e.2.2.1,())
def au5:Sum:=⟨[.str],O7,fun x=>aiq x.1⟩
theorem aon:dK prog 283 au5:=qA Tryz.f283 [] (sE anJ aN)
noncomputable def aA3:Code:=(Tryz.f267.body).getD .skip
noncomputable def apo:Code:=cA (cA (cB (cB (cA (aA3)))))
def arO:eG:=⟨[0,2,100003],[],[],[],[],[]⟩
def Zz:SQ:=⟨us [ct,.u,cg] 28,dc,da⟩
def aah:SQ:=⟨us [] 31,dc,da⟩
def aaR:SQ:=⟨us [] 31,dc,[]⟩
def Qx {h:Type} (i:Bool->(List fJ)->Int->Int->Int->(List fE)->Option h) (l:(List fJ)->Int->Int->Int->(List fE)->Option h) (u:Option h) (j:Bool) (m:List fJ) (o p q:Int) (s:List fE):Option h:=bF (AA m o s p q) fun e=>cond e.2.1 (i j e.1.1 e.1.2.1 e.1.2.2.2.1 e.1.2.2.2.2.1 e.1.2.2.1)<|bF (NZ e.1.1 e.1.2.1 e.1.2.2.1 e.1.2.2.2.1 e.1.2.2.2.2.1) fun d=>cond (!d.2.1) (l d.1.1 d.1.2.1 d.1.2.2.2.1 d.1.2.2.2.2.1 d.1.2.2.1)<|cond (!j) (cond (gm d.1.1 d.1.2.1) (bF (aiq (eX d.1.1 (0,([],(0,(0,())))) d.1.2.1).2.1) fun g=>cond g.1 (bF (DV d.1.1 d.1.2.1 d.1.2.2.1 d.1.2.2.2.1 d.1.2.2.2.2.1 6) fun f=>i j f.1.1 f.1.2.1 f.1.2.2.2.1 f.1.2.2.2.2.1 f.1.2.2.1)<|bF (DV d.1.1 d.1.2.1 d.1.2.2.1 d.1.2.2.2.1 d.1.2.2.2.2.1 7) fun f=>i true f.1.1 f.1.2.1 f.1.2.2.2.1 f.1.2.2.2.2.1 f.1.2.2.1) a7)<|bF (DV d.1.1 d.1.2.1 d.1.2.2.1 d.1.2.2.2.1 d.1.2.2.2.2.1 7) fun g=>i true g.1.1 g.1.2.1 g.1.2.2.2.1 g.1.2.2.2.2.1 g.1.2.2.1
def FU:Nat->Bool->(List fJ)->Int->Int->Int->(List fE)->Option (aah.den⊕aaR.den)
 |0,_,_,_,_,_,_=>a7
 |n+1,d,e,f,g,h,i=>Qx (FU n) (fun j l m o p=>a6 (.inl ((),((),()),((j,l,m,o,()),p,())))) (a6 (.inr ((),((),()),()))) d e f g h i
def axu (n:Nat) (v:Zz.den):=bc (FU n) v
noncomputable def ajf:dA:=fK arO Zz aah aaR (.exit 0) (axu bJ) 6
def aio (e:List fJ) (f:Int) (g:List fE) (h i:Int):Option tZ:=bF (FU bJ false e f h i g) fun j=>dL j (fun d=>a6 ((d.2.2.1.1,(d.2.2.1.2.1,(d.2.2.2.1,(d.2.2.1.2.2.1,(d.2.2.1.2.2.2.1,()))))),())) (fun l=>a7)
def au4:fF:=⟨117,xX,[],[],fun x y=>aio x.1 x.2.1 x.2.2.1 x.2.2.2.1 x.2.2.2.2.1⟩
noncomputable def afl:Env:=gQ prog tt [(283,au5)] [(267,3,arO)] [(267,3,ajf)] [] [(109,abC),(279,ahk),(282,abK)]
def akC {d:Type} (a:Zz.den->Option d) (b:aah.den->Option d) (c:aaR.den->Option d) (v:Zz.den):Option d:=bc (Qx (bb a) (be b) (c ((),((),()),()))) v
theorem ayh:dQ afl 267 apo ajf:=mO (akC) (h2:=by intros;simp only[akC,bb,be,bc,Qx,cu,cO,bD,bV,cZ])
theorem aCr:dO afl 267 aA3:=pI [apo] (aD (fM (ayh)) aN)
theorem amm:eP afl:=eB (aD aon aN) [267] (aD ⟨Tryz.f267,aA3,by kernel_rfl,by kernel_rfl,aCr⟩ aN) (hx:=(aD Gu (aD Xr (aD Gz aN))))
theorem aol:dI prog 267 au4:=sB amm
def rG (f:List fJ) (g:Int) (h:List fE) (i j:Int) (l:bW):Option tZ:=bF (lD f g h i j l) fun d=>cond (!d.2.1) (bF (yC d.1.1 d.1.2.1 d.1.2.2.1 d.1.2.2.2.1 d.1.2.2.2.2.1) fun e=>a6 ((e.1.1,(e.1.2.1,(e.1.2.2.1,(e.1.2.2.2.1,(e.1.2.2.2.2.1,()))))),()))<|some ((d.1.1,(d.1.2.1,(d.1.2.2.1,(d.1.2.2.2.1,(d.1.2.2.2.2.1,()))))),())
def EP:fF:=⟨117,xX,[.str],[],fun x y=>rG x.1 x.2.1 x.2.2.1 x.2.2.2.1 x.2.2.2.2.1 y.1⟩
theorem sS:dI prog 281 EP:=qB [] aN (sF kP (sF sQ aN))
structure ed where
 q108:(List fJ)->Int->(List fE)->Int->Int->Option tZ
 q155:(List fJ)->Int->(List fE)->Int->Int->Option tZ
 q205:(List fJ)->Int->(List fE)->Int->Int->Option tZ
 q239:(List fJ)->Int->(List fE)->Int->Int->Option tZ
 q266:(List fJ)->Int->(List fE)->Int->Int->Option tZ
 q263:(List fJ)->Int->(List fE)->Int->Int->Option tZ
 q285:(List fJ)->Int->(List fE)->Int->Int->Option tZ
 q272:(List fJ)->Int->(List fE)->Int->Int->Option tZ
 q273:(List fJ)->Int->(List fE)->Int->Int->Option tZ
 q274:(List fJ)->Int->(List fE)->Int->Int->Option tZ
 q275:(List fJ)->Int->(List fE)->Int->Int->Option tZ
 q276:(List fJ)->Int->(List fE)->Int->Int->Option tZ
 q277:(List fJ)->Int->(List fE)->Int->Int->Option tZ
 q287:(List fJ)->Int->(List fE)->Int->Int->Option tZ
 q286:(List fJ)->Int->(List fE)->Int->Int->Option tZ
def abB (q:ed):fF:=⟨117,xX,[],[],fun x y=>q.q108 x.1 x.2.1 x.2.2.1 x.2.2.2.1 x.2.2.2.2.1⟩
def akZ (q:ed):fF:=⟨117,xX,[],[],fun x y=>q.q155 x.1 x.2.1 x.2.2.1 x.2.2.2.1 x.2.2.2.2.1⟩
def ak1 (q:ed):fF:=⟨117,xX,[],[],fun x y=>q.q205 x.1 x.2.1 x.2.2.1 x.2.2.2.1 x.2.2.2.2.1⟩
def ak3 (q:ed):fF:=⟨117,xX,[],[],fun x y=>q.q239 x.1 x.2.1 x.2.2.1 x.2.2.2.1 x.2.2.2.2.1⟩
def ak6 (q:ed):fF:=⟨117,xX,[],[],fun x y=>q.q266 x.1 x.2.1 x.2.2.1 x.2.2.2.1 x.2.2.2.2.1⟩
def abI (q:ed):fF:=⟨117,xX,[],[],fun x y=>q.q263 x.1 x.2.1 x.2.2.1 x.2.2.2.1 x.2.2.2.2.1⟩
def GG (q:ed):fF:=⟨117,xX,[],[],fun x y=>q.q285 x.1 x.2.1 x.2.2.1 x.2.2.2.1 x.2.2.2.2.1⟩
def ak7 (q:ed):fF:=⟨117,xX,[],[],fun x y=>q.q272 x.1 x.2.1 x.2.2.1 x.2.2.2.1 x.2.2.2.2.1⟩
def ak8 (q:ed):fF:=⟨117,xX,[],[],fun x y=>q.q273 x.1 x.2.1 x.2.2.1 x.2.2.2.1 x.2.2.2.2.1⟩
def ak9 (q:ed):fF:=⟨117,xX,[],[],fun x y=>q.q274 x.1 x.2.1 x.2.2.1 x.2.2.2.1 x.2.2.2.2.1⟩
def ala (q:ed):fF:=⟨117,xX,[],[],fun x y=>q.q275 x.1 x.2.1 x.2.2.1 x.2.2.2.1 x.2.2.2.2.1⟩
def alb (q:ed):fF:=⟨117,xX,[],[],fun x y=>q.q276 x.1 x.2.1 x.2.2.1 x.2.2.2.1 x.2.2.2.2.1⟩
def alc (q:ed):fF:=⟨117,xX,[],[],fun x y=>q.q277 x.1 x.2.1 x.2.2.1 x.2.2.2.1 x.2.2.2.2.1⟩
def ald (q:ed):fF:=⟨117,xX,[],[],fun x y=>q.q287 x.1 x.2.1 x.2.2.1 x.2.2.2.1 x.2.2.2.2.1⟩
def abL (q:ed):fF:=⟨117,xX,[],[],fun x y=>q.q286 x.1 x.2.1 x.2.2.1 x.2.2.2.1 x.2.2.2.2.1⟩
noncomputable def aAV:Code:=(f108.body).getD .skip
noncomputable def aoT:Code:=cA (cA (cB (cA (aAV))))
def aro:eG:=⟨[0,100000],[],[],[],[],[]⟩
def Y3:SQ:=⟨us bO 15,dc,da⟩
def ZJ:SQ:=⟨us [] 16,dc,da⟩
def aaq:SQ:=⟨us [] 16,dc,[]⟩
def P6 (q:ed) {l:Type} (o m:(List fJ)->Int->Int->Int->(List fE)->Option l) (u:Option l) (p:List fJ) (h i s:Int) (j:List fE):Option l:=cond (bT 3 3) (cond (bT h h) (cond (bT i i) (cond (dV (bM j [(3,(h,(0,(i,()))))]) 32) (cond (bT 3 3) (cond (bT h h) (cond (bT i i) (cond ((bT 3 3)&&((bT h h)&&((bT 0 0)&&((bT i i)&&true)))) (bF (q.q155 p h (bM j [(3,(h,(0,(i,()))))]) (bG j) s) fun g=>cond (gm g.1.2.2.1 (bG j)) (cond (ni (dw (bG j)) g.1.2.2.1) (bF (lD g.1.1 g.1.2.1 (ik g.1.2.2.1 (dw (bG j)) ((dD g.1.2.2.1 (0,(0,(0,(0,())))) (dw (bG j))).1,((dD g.1.2.2.1 (0,(0,(0,(0,())))) (dw (bG j))).2.1,(g.1.2.1,((dD g.1.2.2.1 (0,(0,(0,(0,())))) (dw (bG j))).2.2.2.1,()))))) i g.1.2.2.2.2.1 [59,38]) fun f=>cond f.2.1 (bF (pq f.1.1 f.1.2.1 f.1.2.2.1 f.1.2.2.2.1 f.1.2.2.2.2.1) fun e=>bF (JD e.1.1 e.1.2.1 e.1.2.2.1 e.1.2.2.2.1 e.1.2.2.2.2.1) fun d=>cond (!d.2.1) (m d.1.1 d.1.2.1 d.1.2.2.2.1 d.1.2.2.2.2.1 d.1.2.2.1)<|o d.1.1 d.1.2.1 d.1.2.2.2.1 d.1.2.2.2.2.1 d.1.2.2.1)<|bF (pq f.1.1 f.1.2.1 f.1.2.2.1 f.1.2.2.2.1 f.1.2.2.2.2.1) fun e=>cond (!e.2.1) (m e.1.1 e.1.2.1 e.1.2.2.2.1 e.1.2.2.2.2.1 e.1.2.2.1)<|bF (JD e.1.1 e.1.2.1 e.1.2.2.1 e.1.2.2.2.1 e.1.2.2.2.2.1) fun d=>cond (!d.2.1) (m d.1.1 d.1.2.1 d.1.2.2.2.1 d.1.2.2.2.2.1 d.1.2.2.1)<|o d.1.1 d.1.2.1 d.1.2.2.2.1 d.1.2.2.2.2.1 d.1.2.2.1) a7) a7) a7) a7) a7) a7) a7) a7) a7) a7
def yK (q:ed):Nat->(List fJ)->Int->Int->Int->(List fE)->Option (ZJ.den⊕aaq.den)
 |0,_,_,_,_,_=>a7
 |n+1,d,e,f,g,h=>P6 q (yK q n) (fun i j l m o=>a6 (.inl ((),((),()),((i,j,l,m,()),o,())))) (a6 (.inr ((),((),()),()))) d e f g h
def awZ (q:ed) (n:Nat) (v:Y3.den):=bh (yK q n) v
noncomputable def aiK (q:ed):dA:=fK aro Y3 ZJ aaq (.exit 0) (awZ q bJ) 6
def aqA (q:ed) (e:List fJ) (f:Int) (g:List fE) (h i:Int):Option tZ:=bF (yK q bJ e f h i g) fun j=>dL j (fun d=>a6 ((d.2.2.1.1,(d.2.2.1.2.1,(d.2.2.2.1,(d.2.2.1.2.2.1,(d.2.2.1.2.2.2.1,()))))),())) (fun l=>a7)
noncomputable def aeX (q:ed):Env:=gQ prog tt [] [(108,0,aro),(108,600000,BU),(67,600003,jL)] [(108,0,aiK q)] [] [(106,xO),(107,Ns),(155,akZ q),(156,Di)]
def aj7 (q:ed) {d:Type} (a:Y3.den->Option d) (b:ZJ.den->Option d) (c:aaq.den->Option d) (v:Y3.den):Option d:=bh (P6 q (be a) (be b) (c ((),((),()),()))) v
theorem axM (q:ed):dQ (aeX q) 108 aoT (aiK q):=mO (aj7 q) (h2:=by intros;simp only[aj7,be,bh,P6,cu,cO,bD,bV,cZ])
theorem aBW (q:ed):dO (aeX q) 108 aAV:=pI [aoT] (aD (fM (axM q)) aN)
abbrev GL (q:ed):Prop:=dI prog 108 (abB q)/\dI prog 155 (akZ q)/\dI prog 205 (ak1 q)/\dI prog 239 (ak3 q)/\dI prog 266 (ak6 q)/\dI prog 263 (abI q)/\dI prog 285 (GG q)/\dI prog 272 (ak7 q)/\dI prog 273 (ak8 q)/\dI prog 274 (ak9 q)/\dI prog 275 (ala q)/\dI prog 276 (alb q)/\dI prog 277 (alc q)/\dI prog 287 (ald q)/\dI prog 286 (abL q)
theorem alJ (q:ed) (H:GL q):eP (aeX q):=eB aN [108] (aD ⟨f108,aAV,by kernel_rfl,by kernel_rfl,aBW q⟩ aN) (hx:=(aD kP (aD Bq (aD H.2.1 (aD qM aN)))))
noncomputable def aAY:Code:=(Tryz.f155.body).getD .skip
noncomputable def ao4:Code:=cA (cA (cB (aAY)))
def arx:eG:=⟨[0,100001],[],[],[],[],[]⟩
def Ze:SQ:=⟨us bO 9,dc,da⟩
def ZR:SQ:=⟨us [] 10,dc,da⟩
def aay:SQ:=⟨us [] 10,dc,[]⟩
def Qe (q:ed) {g:Type} (h i:(List fJ)->Int->Int->Int->(List fE)->Option g) (s:Option g) (j:List fJ) (l m o:Int) (p:List fE):Option g:=bF (lD j l p m o [97,111]) fun d=>cond d.2.1 (bF (pq d.1.1 d.1.2.1 d.1.2.2.1 d.1.2.2.2.1 d.1.2.2.2.2.1) fun e=>bF (q.q205 e.1.1 e.1.2.1 e.1.2.2.1 e.1.2.2.2.1 e.1.2.2.2.2.1) fun f=>h f.1.1 f.1.2.1 f.1.2.2.2.1 f.1.2.2.2.2.1 f.1.2.2.1)<|i d.1.1 d.1.2.1 d.1.2.2.2.1 d.1.2.2.2.2.1 d.1.2.2.1
def JY (q:ed):Nat->(List fJ)->Int->Int->Int->(List fE)->Option (ZR.den⊕aay.den)
 |0,_,_,_,_,_=>a7
 |n+1,d,e,f,g,h=>Qe q (JY q n) (fun i j l m o=>a6 (.inl ((),((),()),((i,j,l,m,()),o,())))) (a6 (.inr ((),((),()),()))) d e f g h
def axa (q:ed) (n:Nat) (v:Ze.den):=bh (JY q n) v
noncomputable def aiV (q:ed):dA:=fK arx Ze ZR aay (.exit 0) (axa q bJ) 6
def aqC (q:ed) (f:List fJ) (g:Int) (h:List fE) (i j:Int):Option tZ:=bF (q.q205 f g h i j) fun d=>bF (JY q bJ d.1.1 d.1.2.1 d.1.2.2.2.1 d.1.2.2.2.2.1 d.1.2.2.1) fun l=>dL l (fun e=>a6 ((e.2.2.1.1,(e.2.2.1.2.1,(e.2.2.2.1,(e.2.2.1.2.2.1,(e.2.2.1.2.2.2.1,()))))),())) (fun m=>a7)
noncomputable def ae4 (q:ed):Env:=gQ prog tt [] [(155,1,arx)] [(155,1,aiV q)] [] [(106,xO),(156,Di),(205,ak1 q)]
def aki (q:ed) {d:Type} (a:Ze.den->Option d) (b:ZR.den->Option d) (c:aay.den->Option d) (v:Ze.den):Option d:=bh (Qe q (be a) (be b) (c ((),((),()),()))) v
theorem axX (q:ed):dQ (ae4 q) 155 ao4 (aiV q):=mO (aki q) (h2:=by intros;simp only[aki,be,bh,Qe,cu,cO,bD,bV,cZ])
theorem aB5 (q:ed):dO (ae4 q) 155 aAY:=pI [ao4] (aD (fM (axX q)) aN)
theorem alU (q:ed) (H:GL q):eP (ae4 q):=eB aN [155] (aD ⟨Tryz.f155,aAY,by kernel_rfl,by kernel_rfl,aB5 q⟩ aN) (hx:=(aD kP (aD qM (aD H.2.2.1 aN))))
noncomputable def QW:Code:=(f238.body).getD .skip
noncomputable def Q9:Code:=cA (cA (cB (cB (QW))))
def Sz:eG:=⟨[0,239000002],[],[],[],[],[]⟩
def CJ:SQ:=⟨us [cH] 10,ca,[co,bN,cq]⟩
def Ez:SQ:=⟨us [] 11,ca,[co,bN,cq]⟩
def EH:SQ:=⟨us [] 11,ca,[]⟩
def zg (q:ed) {g:Type} (j l:Int->Int->(List fJ)->Int->Int->Int->(List fE)->Option g) (v:Int->Int->Option g) (h i:Int) (m:List fJ) (o p s:Int) (u:List fE):Option g:=bF (lD m o u p s [124]) fun d=>cond d.2.1 (bF (pq d.1.1 d.1.2.1 d.1.2.2.1 d.1.2.2.2.1 d.1.2.2.2.2.1) fun e=>bF (q.q239 e.1.1 e.1.2.1 e.1.2.2.1 e.1.2.2.2.1 e.1.2.2.2.2.1) fun f=>j h i f.1.1 f.1.2.1 f.1.2.2.2.1 f.1.2.2.2.2.1 f.1.2.2.1)<|l h i d.1.1 d.1.2.1 d.1.2.2.2.1 d.1.2.2.2.2.1 d.1.2.2.1
def uC (q:ed):Nat->Int->Int->(List fJ)->Int->Int->Int->(List fE)->Option (Ez.den⊕EH.den)
 |0,_,_,_,_,_,_,_=>a7
 |n+1,d,e,f,g,h,i,j=>zg q (uC q n) (fun l m o p s u v=>a6 (.inl ((),((l,m,()),(),(),()),((),(o,p,s,u,()),v,())))) (fun x y=>a6 (.inr ((),((x,y,()),(),(),()),()))) d e f g h i j
def adq (q:ed) (n:Nat) (v:CJ.den):=uC q n v.2.1.1.1 v.2.1.1.2.1 v.2.2.2.1.1 v.2.2.2.1.2.1 v.2.2.2.1.2.2.1 v.2.2.2.1.2.2.2.1 v.2.2.2.2.1
noncomputable def Oq (q:ed):dA:=fK Sz CJ Ez EH (.exit 0) (adq q bJ) 6
def acr (q:ed) (h:List fJ) (i:Int) (j:List fE) (l m:Int):Option tZ:=bF (JD h i j l m) fun d=>cond (!d.2.1) (bF (yC d.1.1 d.1.2.1 d.1.2.2.1 d.1.2.2.2.1 d.1.2.2.2.2.1) fun f=>a6 ((f.1.1,(f.1.2.1,(f.1.2.2.1,(f.1.2.2.2.1,(f.1.2.2.2.2.1,()))))),()))<|cond (bT 4 4) (cond (bT d.1.2.1 d.1.2.1) (cond (bT d.1.2.2.2.1 d.1.2.2.2.1) (cond (dV (bM d.1.2.2.1 [(4,(d.1.2.1,(0,(d.1.2.2.2.1,()))))]) 32) (cond (bT 4 4) (cond (bT d.1.2.1 d.1.2.1) (cond (bT d.1.2.2.2.1 d.1.2.2.2.1) (cond ((bT 4 4)&&((bT d.1.2.1 d.1.2.1)&&((bT 0 0)&&((bT d.1.2.2.2.1 d.1.2.2.2.1)&&true)))) (bF (lD d.1.1 d.1.2.1 (bM d.1.2.2.1 [(4,(d.1.2.1,(0,(d.1.2.2.2.1,()))))]) (bG d.1.2.2.1) d.1.2.2.2.2.1 [33]) fun f=>bF (q.q239 f.1.1 f.1.2.1 f.1.2.2.1 f.1.2.2.2.1 f.1.2.2.2.2.1) fun g=>bF (uC q bJ (bG d.1.2.2.1) d.1.2.2.2.1 g.1.1 g.1.2.1 g.1.2.2.2.1 g.1.2.2.2.2.1 g.1.2.2.1) fun o=>dL o (fun e=>cond (gm e.2.2.2.2.1 e.2.1.1.1) (cond (ni (dw e.2.1.1.1) e.2.2.2.2.1) (a6 ((e.2.2.2.1.1,(e.2.2.2.1.2.1,((ik e.2.2.2.2.1 (dw e.2.1.1.1) ((dD e.2.2.2.2.1 (0,(0,(0,(0,())))) (dw e.2.1.1.1)).1,((dD e.2.2.2.2.1 (0,(0,(0,(0,())))) (dw e.2.1.1.1)).2.1,(e.2.2.2.1.2.1,((dD e.2.2.2.2.1 (0,(0,(0,(0,())))) (dw e.2.1.1.1)).2.2.2.1,()))))),(e.2.1.1.2.1,(e.2.2.2.1.2.2.2.1,()))))),())) a7) a7) (fun p=>a7)) a7) a7) a7) a7) a7) a7) a7) a7
noncomputable def afc (q:ed):Env:=gQ prog tt [] [(238,2,Sz),(205,600003,aiH),(67,600003,jL)] [(238,2,Oq q)] [] [(106,xO),(107,Ns),(156,Di),(237,NH),(239,ak3 q)]
def OM (q:ed) {d:Type} (a:CJ.den->Option d) (b:Ez.den->Option d) (c:EH.den->Option d) (v:CJ.den):Option d:=zg q (fun e f g h i j l=>a ((),((e,f,()),(),(),()),((),(g,h,i,j,()),l,()))) (fun m o p s u x y=>b ((),((m,o,()),(),(),()),((),(p,s,u,x,()),y,()))) (fun z A=>c ((),((z,A,()),(),(),()),())) v.2.1.1.1 v.2.1.1.2.1 v.2.2.2.1.1 v.2.2.2.1.2.1 v.2.2.2.1.2.2.1 v.2.2.2.1.2.2.2.1 v.2.2.2.2.1
theorem adN (q:ed):dQ (afc q) 238 Q9 (Oq q):=mO (OM q) (h2:=by intros;simp only[OM,zg,cu,cO,bD,bV,cZ])
theorem afW (q:ed):dO (afc q) 238 QW:=pI [Q9] (aD (fM (adN q)) aN)
theorem al5 (q:ed) (H:GL q):eP (afc q):=eB aN [238] (aD ⟨f238,QW,by kernel_rfl,by kernel_rfl,afW q⟩ aN) (hx:=(aD kP (aD Bq (aD qM (aD sQ (aD H.2.2.2.1 aN))))))
def Oh:eG:=⟨[0,1,2],[],[],[],[],[]⟩
def aqE (q:ed) (h:List fJ) (i:Int) (j:List fE) (l m:Int):Option tZ:=bF (V5 h i j l m) fun g=>cond g.2.1 (bF (q.q263 g.1.1 g.1.2.1 g.1.2.2.1 g.1.2.2.2.1 g.1.2.2.2.2.1) fun e=>a6 ((e.1.1,(e.1.2.1,(e.1.2.2.1,(e.1.2.2.2.1,(e.1.2.2.2.2.1,()))))),()))<|bF (ain g.1.1 g.1.2.1 g.1.2.2.1 g.1.2.2.2.1 g.1.2.2.2.2.1) fun e=>cond e.2.1 (cond (bT 16 16) (cond (bT e.1.2.1 e.1.2.1) (cond (bT e.1.2.2.2.1 e.1.2.2.2.1) (cond (dV (bM e.1.2.2.1 [(16,(e.1.2.1,(0,(e.1.2.2.2.1,()))))]) 32) (cond (bT 16 16) (cond (bT e.1.2.1 e.1.2.1) (cond (bT e.1.2.2.2.1 e.1.2.2.2.1) (cond ((bT 16 16)&&((bT e.1.2.1 e.1.2.1)&&((bT 0 0)&&((bT e.1.2.2.2.1 e.1.2.2.2.1)&&true)))) (bF (q.q266 e.1.1 e.1.2.1 (bM e.1.2.2.1 [(16,(e.1.2.1,(0,(e.1.2.2.2.1,()))))]) (bG e.1.2.2.1) (bZ .i64 e.1.2.2.2.2.1 1)) fun d=>cond (gm d.1.2.2.1 (bG e.1.2.2.1)) (cond (ni (dw (bG e.1.2.2.1)) d.1.2.2.1) (a6 ((d.1.1,(d.1.2.1,((ik d.1.2.2.1 (dw (bG e.1.2.2.1)) ((dD d.1.2.2.1 (0,(0,(0,(0,())))) (dw (bG e.1.2.2.1))).1,((dD d.1.2.2.1 (0,(0,(0,(0,())))) (dw (bG e.1.2.2.1))).2.1,(d.1.2.1,((dD d.1.2.2.1 (0,(0,(0,(0,())))) (dw (bG e.1.2.2.1))).2.2.2.1,()))))),(e.1.2.2.2.1,((eF .i64 d.1.2.2.2.2.1 1),()))))),())) a7) a7) a7) a7) a7) a7) a7) a7) a7) a7)<|bF (acz e.1.1 e.1.2.1 e.1.2.2.1 e.1.2.2.2.1 e.1.2.2.2.2.1) fun d=>cond d.2.1 (cond (bT 5 5) (cond (bT d.1.2.1 d.1.2.1) (cond (bT d.1.2.2.2.1 d.1.2.2.2.1) (cond (dV (bM d.1.2.2.1 [(5,(d.1.2.1,(0,(d.1.2.2.2.1,()))))]) 32) (cond (bT 5 5) (cond (bT d.1.2.1 d.1.2.1) (cond (bT d.1.2.2.2.1 d.1.2.2.2.1) (cond ((bT 5 5)&&((bT d.1.2.1 d.1.2.1)&&((bT 0 0)&&((bT d.1.2.2.2.1 d.1.2.2.2.1)&&true)))) (bF (aio d.1.1 d.1.2.1 (bM d.1.2.2.1 [(5,(d.1.2.1,(0,(d.1.2.2.2.1,()))))]) (bG d.1.2.2.1) d.1.2.2.2.2.1) fun f=>cond (gm f.1.2.2.1 (bG d.1.2.2.1)) (cond (ni (dw (bG d.1.2.2.1)) f.1.2.2.1) (a6 ((f.1.1,(f.1.2.1,((ik f.1.2.2.1 (dw (bG d.1.2.2.1)) ((dD f.1.2.2.1 (0,(0,(0,(0,())))) (dw (bG d.1.2.2.1))).1,((dD f.1.2.2.1 (0,(0,(0,(0,())))) (dw (bG d.1.2.2.1))).2.1,(f.1.2.1,((dD f.1.2.2.1 (0,(0,(0,(0,())))) (dw (bG d.1.2.2.1))).2.2.2.1,()))))),(d.1.2.2.2.1,(f.1.2.2.2.2.1,()))))),())) a7) a7) a7) a7) a7) a7) a7) a7) a7) a7)<|bF (yC d.1.1 d.1.2.1 d.1.2.2.1 d.1.2.2.2.1 d.1.2.2.2.2.1) fun f=>a6 ((f.1.1,(f.1.2.1,(f.1.2.2.1,(f.1.2.2.2.1,(f.1.2.2.2.2.1,()))))),())
noncomputable def aBi (q:ed):Env:=gQ prog tt [] [(239,600004,BU),(239,600006,BU),(67,600003,jL),(265,600001,Oh)] [] [] [(154,auH),(204,ahh),(237,NH),(263,abI q),(264,au3),(266,ak6 q),(267,au4)]
theorem amc (q:ed) (H:GL q):eP (aBi q):=eB aN [] aN (hx:=(aD Xd (aD ND (aD sQ (aD H.2.2.2.2.2.1 (aD aok (aD H.2.2.2.2.1 (aD aol aN))))))))
def aqJ (q:ed) (j:List fJ) (l:Int) (m:List fE) (o p:Int):Option tZ:=bF (NY j l m o p) fun f=>bF (lD f.1.1 f.1.2.1 f.1.2.2.1 f.1.2.2.2.1 f.1.2.2.2.2.1 [40]) fun g=>bF (rG g.1.1 g.1.2.1 g.1.2.2.1 g.1.2.2.2.1 g.1.2.2.2.2.1 [41]) fun h=>bF (pq h.1.1 h.1.2.1 h.1.2.2.1 h.1.2.2.2.1 h.1.2.2.2.2.1) fun i=>bF (V5 i.1.1 i.1.2.1 i.1.2.2.1 i.1.2.2.2.1 i.1.2.2.2.2.1) fun d=>cond d.2.1 (bF (q.q263 d.1.1 d.1.2.1 d.1.2.2.1 d.1.2.2.2.1 d.1.2.2.2.2.1) fun e=>a6 ((e.1.1,(e.1.2.1,(e.1.2.2.1,(e.1.2.2.2.1,(e.1.2.2.2.2.1,()))))),()))<|bF (yC d.1.1 d.1.2.1 d.1.2.2.1 d.1.2.2.2.1 d.1.2.2.2.2.1) fun e=>a6 ((e.1.1,(e.1.2.1,(e.1.2.2.1,(e.1.2.2.2.1,(e.1.2.2.2.2.1,()))))),())
noncomputable def aBl (q:ed):Env:=gQ prog tt [] [] [] [] [(106,xO),(156,Di),(204,ahh),(237,NH),(263,abI q),(280,abJ),(281,EP)]
theorem aml (q:ed) (H:GL q):eP (aBl q):=eB aN [] aN (hx:=(aD kP (aD qM (aD ND (aD sQ (aD H.2.2.2.2.2.1 (aD Gy (aD sS aN))))))))
noncomputable def QX:Code:=(f278.body).getD .skip
noncomputable def nV:Code:=cA (cA (cB (cB (QX))))
def qp:eG:=⟨[0,279000002],[],[],[],[],[]⟩
def arY:eG:=⟨[1,2,3],[],[],[],[],[]⟩
def CO:SQ:=⟨eI,bE,ec⟩
def EC:SQ:=⟨du,bE,ec⟩
def EI:SQ:=⟨du,bE,[]⟩
def uM (q:ed) {e:Type} (m o:Int->Int->Int->Int->Int->Int->(List fE)->(List fJ)->Int->Int->Int->Option e) (y:Int->Int->Int->Int->Int->Int->Option e) (f g h i j l:Int) (p:List fE) (s:List fJ) (u v x:Int):Option e:=bF (AA s u p v x) fun d=>cond d.2.1 (m f g h i j l d.1.2.2.1 d.1.1 d.1.2.1 d.1.2.2.2.1 d.1.2.2.2.2.1)<|o f g h i j l d.1.2.2.1 d.1.1 d.1.2.1 d.1.2.2.2.1 d.1.2.2.2.2.1
def og (q:ed):Nat->Int->Int->Int->Int->Int->Int->(List fE)->(List fJ)->Int->Int->Int->Option (EC.den⊕EI.den)
 |0,_,_,_,_,_,_,_,_,_,_,_=>a7
 |n+1,d,e,f,g,h,i,j,l,m,o,p=>uM q (og q n) (fun s u v x y z A B D E G=>a6 (.inl ((),((s,u,()),(v,x,()),(y,z,()),(),()),((),(),A,(B,D,E,G,()),())))) (fun I J K L M N=>a6 (.inr ((),((I,J,()),(K,L,()),(M,N,()),(),()),()))) d e f g h i j l m o p
def adr (q:ed) (n:Nat) (v:CO.den):=bl (og q n) v
noncomputable def Ee (q:ed):dA:=fK qp CO EC EI (.exit 0) (adr q bJ) 6
def vU:SQ:=⟨eI,bE,ef⟩
def zI:SQ:=⟨du,bE,ef⟩
def zO:SQ:=⟨du,bE,[]⟩
def pM (q:ed) {e:Type} (m o:Int->Int->Int->Int->Int->Int->(List fE)->(List fJ)->Int->Int->Int->Option e) (y:Int->Int->Int->Int->Int->Int->Option e) (f g h i j l:Int) (p:List fE) (s:List fJ) (u v x:Int):Option e:=bF (AA s u p v x) fun d=>cond d.2.1 (m f g h i j l d.1.2.2.1 d.1.1 d.1.2.1 d.1.2.2.2.1 d.1.2.2.2.2.1)<|o f g h i j l d.1.2.2.1 d.1.1 d.1.2.1 d.1.2.2.2.1 d.1.2.2.2.2.1
def kZ (q:ed):Nat->Int->Int->Int->Int->Int->Int->(List fE)->(List fJ)->Int->Int->Int->Option (zI.den⊕zO.den)
 |0,_,_,_,_,_,_,_,_,_,_,_=>a7
 |n+1,d,e,f,g,h,i,j,l,m,o,p=>pM q (kZ q n) (fun s u v x y z A B D E G=>a6 (.inl ((),((s,u,()),(v,x,()),(y,z,()),(),()),((),(),A,(B,D,E,G,()),())))) (fun I J K L M N=>a6 (.inr ((),((I,J,()),(K,L,()),(M,N,()),(),()),()))) d e f g h i j l m o p
def U8 (q:ed) (n:Nat) (v:vU.den):=bl (kZ q n) v
noncomputable def zA (q:ed):dA:=fK qp vU zI zO (.exit 0) (U8 q bJ) 12
def vV:SQ:=⟨eI,bE,eg⟩
def zJ:SQ:=⟨du,bE,eg⟩
def zQ:SQ:=⟨du,bE,[]⟩
def pO (q:ed) {e:Type} (m o:Int->Int->Int->Int->Int->Int->(List fE)->(List fJ)->Int->Int->Int->Option e) (y:Int->Int->Int->Int->Int->Int->Option e) (f g h i j l:Int) (p:List fE) (s:List fJ) (u v x:Int):Option e:=bF (AA s u p v x) fun d=>cond d.2.1 (m f g h i j l d.1.2.2.1 d.1.1 d.1.2.1 d.1.2.2.2.1 d.1.2.2.2.2.1)<|o f g h i j l d.1.2.2.1 d.1.1 d.1.2.1 d.1.2.2.2.1 d.1.2.2.2.2.1
def lg (q:ed):Nat->Int->Int->Int->Int->Int->Int->(List fE)->(List fJ)->Int->Int->Int->Option (zJ.den⊕zQ.den)
 |0,_,_,_,_,_,_,_,_,_,_,_=>a7
 |n+1,d,e,f,g,h,i,j,l,m,o,p=>pO q (lg q n) (fun s u v x y z A B D E G=>a6 (.inl ((),((s,u,()),(v,x,()),(y,z,()),(),()),((),(),A,(B,D,E,G,()),())))) (fun I J K L M N=>a6 (.inr ((),((I,J,()),(K,L,()),(M,N,()),(),()),()))) d e f g h i j l m o p
def U9 (q:ed) (n:Nat) (v:vV.den):=bl (lg q n) v
noncomputable def zB (q:ed):dA:=fK qp vV zJ zQ (.exit 0) (U9 q bJ) 18
def vW:SQ:=⟨eI,bE,eh⟩
def zK:SQ:=⟨du,bE,eh⟩
def zS:SQ:=⟨du,bE,[]⟩
def pU (q:ed) {e:Type} (m o:Int->Int->Int->Int->Int->Int->(List fE)->(List fJ)->Int->Int->Int->Option e) (y:Int->Int->Int->Int->Int->Int->Option e) (f g h i j l:Int) (p:List fE) (s:List fJ) (u v x:Int):Option e:=bF (AA s u p v x) fun d=>cond d.2.1 (m f g h i j l d.1.2.2.1 d.1.1 d.1.2.1 d.1.2.2.2.1 d.1.2.2.2.2.1)<|o f g h i j l d.1.2.2.1 d.1.1 d.1.2.1 d.1.2.2.2.1 d.1.2.2.2.2.1
def lm (q:ed):Nat->Int->Int->Int->Int->Int->Int->(List fE)->(List fJ)->Int->Int->Int->Option (zK.den⊕zS.den)
 |0,_,_,_,_,_,_,_,_,_,_,_=>a7
 |n+1,d,e,f,g,h,i,j,l,m,o,p=>pU q (lm q n) (fun s u v x y z A B D E G=>a6 (.inl ((),((s,u,()),(v,x,()),(y,z,()),(),()),((),(),A,(B,D,E,G,()),())))) (fun I J K L M N=>a6 (.inr ((),((I,J,()),(K,L,()),(M,N,()),(),()),()))) d e f g h i j l m o p
def Va (q:ed) (n:Nat) (v:vW.den):=bl (lm q n) v
noncomputable def zC (q:ed):dA:=fK qp vW zK zS (.exit 0) (Va q bJ) 24
def vX:SQ:=⟨eI,bE,ei⟩
def zL:SQ:=⟨du,bE,ei⟩
def zT:SQ:=⟨du,bE,[]⟩
def pV (q:ed) {e:Type} (m o:Int->Int->Int->Int->Int->Int->(List fE)->(List fJ)->Int->Int->Int->Option e) (y:Int->Int->Int->Int->Int->Int->Option e) (f g h i j l:Int) (p:List fE) (s:List fJ) (u v x:Int):Option e:=bF (AA s u p v x) fun d=>cond d.2.1 (m f g h i j l d.1.2.2.1 d.1.1 d.1.2.1 d.1.2.2.2.1 d.1.2.2.2.2.1)<|o f g h i j l d.1.2.2.1 d.1.1 d.1.2.1 d.1.2.2.2.1 d.1.2.2.2.2.1
def lq (q:ed):Nat->Int->Int->Int->Int->Int->Int->(List fE)->(List fJ)->Int->Int->Int->Option (zL.den⊕zT.den)
 |0,_,_,_,_,_,_,_,_,_,_,_=>a7
 |n+1,d,e,f,g,h,i,j,l,m,o,p=>pV q (lq q n) (fun s u v x y z A B D E G=>a6 (.inl ((),((s,u,()),(v,x,()),(y,z,()),(),()),((),(),A,(B,D,E,G,()),())))) (fun I J K L M N=>a6 (.inr ((),((I,J,()),(K,L,()),(M,N,()),(),()),()))) d e f g h i j l m o p
def Vb (q:ed) (n:Nat) (v:vX.den):=bl (lq q n) v
noncomputable def zD (q:ed):dA:=fK qp vX zL zT (.exit 0) (Vb q bJ) 30
def vY:SQ:=⟨eI,bE,ej⟩
def zM:SQ:=⟨du,bE,ej⟩
def zU:SQ:=⟨du,bE,[]⟩
def pW (q:ed) {e:Type} (m o:Int->Int->Int->Int->Int->Int->(List fE)->(List fJ)->Int->Int->Int->Option e) (y:Int->Int->Int->Int->Int->Int->Option e) (f g h i j l:Int) (p:List fE) (s:List fJ) (u v x:Int):Option e:=bF (AA s u p v x) fun d=>cond d.2.1 (m f g h i j l d.1.2.2.1 d.1.1 d.1.2.1 d.1.2.2.2.1 d.1.2.2.2.2.1)<|o f g h i j l d.1.2.2.1 d.1.1 d.1.2.1 d.1.2.2.2.1 d.1.2.2.2.2.1
def lu (q:ed):Nat->Int->Int->Int->Int->Int->Int->(List fE)->(List fJ)->Int->Int->Int->Option (zM.den⊕zU.den)
 |0,_,_,_,_,_,_,_,_,_,_,_=>a7
 |n+1,d,e,f,g,h,i,j,l,m,o,p=>pW q (lu q n) (fun s u v x y z A B D E G=>a6 (.inl ((),((s,u,()),(v,x,()),(y,z,()),(),()),((),(),A,(B,D,E,G,()),())))) (fun I J K L M N=>a6 (.inr ((),((I,J,()),(K,L,()),(M,N,()),(),()),()))) d e f g h i j l m o p
def Vd (q:ed) (n:Nat) (v:vY.den):=bl (lu q n) v
noncomputable def zF (q:ed):dA:=fK qp vY zM zU (.exit 0) (Vd q bJ) 36
def Aw (q:ed) (i:List fJ) (j:Int) (l:List fE) (m o:Int):Option tZ:=bF (cond (bT 9 9) (cond ((((bT 9 9)&&true)&&(((oH oZ l l)&&(((oH NJ i i)&&((bT j j)&&((bT m m)&&((bT o o)&&true))))&&true))&&true))&&true) (a6 ()) (a7)) (a7)) fun p=>bF (yA i j l m o 0) fun d=>cond (bT d.2.1 40) (cond (bT 10 10) (cond (bT d.1.2.1 d.1.2.1) (cond (bT d.1.2.2.2.1 d.1.2.2.2.1) (cond (dV (bM d.1.2.2.1 [(10,(d.1.2.1,(0,(d.1.2.2.2.1,()))))]) 32) (cond (bT 10 10) (cond (bT d.1.2.1 d.1.2.1) (cond (bT d.1.2.2.2.1 d.1.2.2.2.1) (cond ((bT 10 10)&&((bT d.1.2.1 d.1.2.1)&&((bT 0 0)&&((bT d.1.2.2.2.1 d.1.2.2.2.1)&&true)))) (bF (q.q273 d.1.1 (bZ .i64 d.1.2.1 1) (bM d.1.2.2.1 [(10,(d.1.2.1,(0,(d.1.2.2.2.1,()))))]) (bG d.1.2.2.1) (bZ .i64 d.1.2.2.2.2.1 1)) fun f=>bF (og q bJ (bG d.1.2.2.1) d.1.2.2.2.1 10 10 10 10 f.1.2.2.1 f.1.1 f.1.2.1 f.1.2.2.2.1 f.1.2.2.2.2.1) fun g=>dL g (fun e=>cond (gm e.2.2.2.2.1 e.2.1.1.1) (cond (ni (dw e.2.1.1.1) e.2.2.2.2.1) (a6 ((e.2.2.2.2.2.1.1,(e.2.2.2.2.2.1.2.1,((ik e.2.2.2.2.1 (dw e.2.1.1.1) ((dD e.2.2.2.2.1 (0,(0,(0,(0,())))) (dw e.2.1.1.1)).1,((dD e.2.2.2.2.1 (0,(0,(0,(0,())))) (dw e.2.1.1.1)).2.1,(e.2.2.2.2.2.1.2.1,((dD e.2.2.2.2.1 (0,(0,(0,(0,())))) (dw e.2.1.1.1)).2.2.2.1,()))))),(e.2.1.1.2.1,((eF .i64 e.2.2.2.2.2.1.2.2.2.1 1),()))))),())) a7) a7) (fun h=>a7)) a7) a7) a7) a7) a7) a7) a7) a7)<|cond (bT d.2.1 105) (cond (bT 11 11) (cond (bT d.1.2.1 d.1.2.1) (cond (bT d.1.2.2.2.1 d.1.2.2.2.1) (cond (dV (bM d.1.2.2.1 [(11,(d.1.2.1,(0,(d.1.2.2.2.1,()))))]) 32) (cond (bT 11 11) (cond (bT d.1.2.1 d.1.2.1) (cond (bT d.1.2.2.2.1 d.1.2.2.2.1) (cond ((bT 11 11)&&((bT d.1.2.1 d.1.2.1)&&((bT 0 0)&&((bT d.1.2.2.2.1 d.1.2.2.2.1)&&true)))) (bF (q.q274 d.1.1 (bZ .i64 d.1.2.1 1) (bM d.1.2.2.1 [(11,(d.1.2.1,(0,(d.1.2.2.2.1,()))))]) (bG d.1.2.2.1) (bZ .i64 d.1.2.2.2.2.1 1)) fun f=>bF (kZ q bJ (bG d.1.2.2.1) d.1.2.2.2.1 11 11 11 11 f.1.2.2.1 f.1.1 f.1.2.1 f.1.2.2.2.1 f.1.2.2.2.2.1) fun g=>dL g (fun e=>cond (gm e.2.2.2.2.1 e.2.1.1.1) (cond (ni (dw e.2.1.1.1) e.2.2.2.2.1) (a6 ((e.2.2.2.2.2.1.1,(e.2.2.2.2.2.1.2.1,((ik e.2.2.2.2.1 (dw e.2.1.1.1) ((dD e.2.2.2.2.1 (0,(0,(0,(0,())))) (dw e.2.1.1.1)).1,((dD e.2.2.2.2.1 (0,(0,(0,(0,())))) (dw e.2.1.1.1)).2.1,(e.2.2.2.2.2.1.2.1,((dD e.2.2.2.2.1 (0,(0,(0,(0,())))) (dw e.2.1.1.1)).2.2.2.1,()))))),(e.2.1.1.2.1,((eF .i64 e.2.2.2.2.2.1.2.2.2.1 1),()))))),())) a7) a7) (fun h=>a7)) a7) a7) a7) a7) a7) a7) a7) a7)<|cond (bT d.2.1 119) (cond (bT 12 12) (cond (bT d.1.2.1 d.1.2.1) (cond (bT d.1.2.2.2.1 d.1.2.2.2.1) (cond (dV (bM d.1.2.2.1 [(12,(d.1.2.1,(0,(d.1.2.2.2.1,()))))]) 32) (cond (bT 12 12) (cond (bT d.1.2.1 d.1.2.1) (cond (bT d.1.2.2.2.1 d.1.2.2.2.1) (cond ((bT 12 12)&&((bT d.1.2.1 d.1.2.1)&&((bT 0 0)&&((bT d.1.2.2.2.1 d.1.2.2.2.1)&&true)))) (bF (q.q275 d.1.1 (bZ .i64 d.1.2.1 1) (bM d.1.2.2.1 [(12,(d.1.2.1,(0,(d.1.2.2.2.1,()))))]) (bG d.1.2.2.1) (bZ .i64 d.1.2.2.2.2.1 1)) fun f=>bF (lg q bJ (bG d.1.2.2.1) d.1.2.2.2.1 12 12 12 12 f.1.2.2.1 f.1.1 f.1.2.1 f.1.2.2.2.1 f.1.2.2.2.2.1) fun g=>dL g (fun e=>cond (gm e.2.2.2.2.1 e.2.1.1.1) (cond (ni (dw e.2.1.1.1) e.2.2.2.2.1) (a6 ((e.2.2.2.2.2.1.1,(e.2.2.2.2.2.1.2.1,((ik e.2.2.2.2.1 (dw e.2.1.1.1) ((dD e.2.2.2.2.1 (0,(0,(0,(0,())))) (dw e.2.1.1.1)).1,((dD e.2.2.2.2.1 (0,(0,(0,(0,())))) (dw e.2.1.1.1)).2.1,(e.2.2.2.2.2.1.2.1,((dD e.2.2.2.2.1 (0,(0,(0,(0,())))) (dw e.2.1.1.1)).2.2.2.1,()))))),(e.2.1.1.2.1,((eF .i64 e.2.2.2.2.2.1.2.2.2.1 1),()))))),())) a7) a7) (fun h=>a7)) a7) a7) a7) a7) a7) a7) a7) a7)<|cond (bT d.2.1 114) (cond (bT 13 13) (cond (bT d.1.2.1 d.1.2.1) (cond (bT d.1.2.2.2.1 d.1.2.2.2.1) (cond (dV (bM d.1.2.2.1 [(13,(d.1.2.1,(0,(d.1.2.2.2.1,()))))]) 32) (cond (bT 13 13) (cond (bT d.1.2.1 d.1.2.1) (cond (bT d.1.2.2.2.1 d.1.2.2.2.1) (cond ((bT 13 13)&&((bT d.1.2.1 d.1.2.1)&&((bT 0 0)&&((bT d.1.2.2.2.1 d.1.2.2.2.1)&&true)))) (bF (q.q276 d.1.1 (bZ .i64 d.1.2.1 1) (bM d.1.2.2.1 [(13,(d.1.2.1,(0,(d.1.2.2.2.1,()))))]) (bG d.1.2.2.1) (bZ .i64 d.1.2.2.2.2.1 1)) fun f=>bF (lm q bJ (bG d.1.2.2.1) d.1.2.2.2.1 13 13 13 13 f.1.2.2.1 f.1.1 f.1.2.1 f.1.2.2.2.1 f.1.2.2.2.2.1) fun g=>dL g (fun e=>cond (gm e.2.2.2.2.1 e.2.1.1.1) (cond (ni (dw e.2.1.1.1) e.2.2.2.2.1) (a6 ((e.2.2.2.2.2.1.1,(e.2.2.2.2.2.1.2.1,((ik e.2.2.2.2.1 (dw e.2.1.1.1) ((dD e.2.2.2.2.1 (0,(0,(0,(0,())))) (dw e.2.1.1.1)).1,((dD e.2.2.2.2.1 (0,(0,(0,(0,())))) (dw e.2.1.1.1)).2.1,(e.2.2.2.2.2.1.2.1,((dD e.2.2.2.2.1 (0,(0,(0,(0,())))) (dw e.2.1.1.1)).2.2.2.1,()))))),(e.2.1.1.2.1,((eF .i64 e.2.2.2.2.2.1.2.2.2.1 1),()))))),())) a7) a7) (fun h=>a7)) a7) a7) a7) a7) a7) a7) a7) a7)<|cond (bT d.2.1 99) (cond (bT 14 14) (cond (bT d.1.2.1 d.1.2.1) (cond (bT d.1.2.2.2.1 d.1.2.2.2.1) (cond (dV (bM d.1.2.2.1 [(14,(d.1.2.1,(0,(d.1.2.2.2.1,()))))]) 32) (cond (bT 14 14) (cond (bT d.1.2.1 d.1.2.1) (cond (bT d.1.2.2.2.1 d.1.2.2.2.1) (cond ((bT 14 14)&&((bT d.1.2.1 d.1.2.1)&&((bT 0 0)&&((bT d.1.2.2.2.1 d.1.2.2.2.1)&&true)))) (bF (q.q277 d.1.1 (bZ .i64 d.1.2.1 1) (bM d.1.2.2.1 [(14,(d.1.2.1,(0,(d.1.2.2.2.1,()))))]) (bG d.1.2.2.1) (bZ .i64 d.1.2.2.2.2.1 1)) fun f=>bF (lq q bJ (bG d.1.2.2.1) d.1.2.2.2.1 14 14 14 14 f.1.2.2.1 f.1.1 f.1.2.1 f.1.2.2.2.1 f.1.2.2.2.2.1) fun g=>dL g (fun e=>cond (gm e.2.2.2.2.1 e.2.1.1.1) (cond (ni (dw e.2.1.1.1) e.2.2.2.2.1) (a6 ((e.2.2.2.2.2.1.1,(e.2.2.2.2.2.1.2.1,((ik e.2.2.2.2.1 (dw e.2.1.1.1) ((dD e.2.2.2.2.1 (0,(0,(0,(0,())))) (dw e.2.1.1.1)).1,((dD e.2.2.2.2.1 (0,(0,(0,(0,())))) (dw e.2.1.1.1)).2.1,(e.2.2.2.2.2.1.2.1,((dD e.2.2.2.2.1 (0,(0,(0,(0,())))) (dw e.2.1.1.1)).2.2.2.1,()))))),(e.2.1.1.2.1,((eF .i64 e.2.2.2.2.2.1.2.2.2.1 1),()))))),())) a7) a7) (fun h=>a7)) a7) a7) a7) a7) a7) a7) a7) a7)<|cond (bT 9 9) (cond (bT d.1.2.1 d.1.2.1) (cond (bT d.1.2.2.2.1 d.1.2.2.2.1) (cond (dV (bM d.1.2.2.1 [(9,(d.1.2.1,(0,(d.1.2.2.2.1,()))))]) 32) (cond (bT 9 9) (cond (bT d.1.2.1 d.1.2.1) (cond (bT d.1.2.2.2.1 d.1.2.2.2.1) (cond ((bT 9 9)&&((bT d.1.2.1 d.1.2.1)&&((bT 0 0)&&((bT d.1.2.2.2.1 d.1.2.2.2.1)&&true)))) (bF (q.q272 d.1.1 (bZ .i64 d.1.2.1 1) (bM d.1.2.2.1 [(9,(d.1.2.1,(0,(d.1.2.2.2.1,()))))]) (bG d.1.2.2.1) (bZ .i64 d.1.2.2.2.2.1 1)) fun f=>bF (lu q bJ (bG d.1.2.2.1) d.1.2.2.2.1 9 9 9 9 f.1.2.2.1 f.1.1 f.1.2.1 f.1.2.2.2.1 f.1.2.2.2.2.1) fun g=>dL g (fun e=>cond (gm e.2.2.2.2.1 e.2.1.1.1) (cond (ni (dw e.2.1.1.1) e.2.2.2.2.1) (a6 ((e.2.2.2.2.2.1.1,(e.2.2.2.2.2.1.2.1,((ik e.2.2.2.2.1 (dw e.2.1.1.1) ((dD e.2.2.2.2.1 (0,(0,(0,(0,())))) (dw e.2.1.1.1)).1,((dD e.2.2.2.2.1 (0,(0,(0,(0,())))) (dw e.2.1.1.1)).2.1,(e.2.2.2.2.2.1.2.1,((dD e.2.2.2.2.1 (0,(0,(0,(0,())))) (dw e.2.1.1.1)).2.2.2.1,()))))),(e.2.1.1.2.1,((eF .i64 e.2.2.2.2.2.1.2.2.2.1 1),()))))),())) a7) a7) (fun h=>a7)) a7) a7) a7) a7) a7) a7) a7) a7
noncomputable def BJ (q:ed):Env:=gQ prog tt [] [(278,2,qp),(263,600013,arY),(265,600001,Oh),(67,600003,jL),(278,600001,BV)] [(278,2,kN (Ee q) (kN (zA q) (kN (zB q) (kN (zC q) (kN (zD q) ((zF q)))))))] [] [(153,ahf),(272,ak7 q),(273,ak8 q),(274,ak9 q),(275,ala q),(276,alb q),(277,alc q),(279,ahk)]
def OO (q:ed) {d:Type} (a:CO.den->Option d) (b:EC.den->Option d) (c:EI.den->Option d) (v:CO.den):Option d:=bl (uM q (bj a) (bj b) (bk c)) v
theorem adO (q:ed):dQ (BJ q) 278 nV (Ee q):=mO (OO q) (h2:=by intros;simp only[OO,bj,bk,bl,uM,cu,cO,bD,bV,cZ])
def Ht (q:ed) {d:Type} (a:vU.den->Option d) (b:zI.den->Option d) (c:zO.den->Option d) (v:vU.den):Option d:=bl (pM q (bj a) (bj b) (bk c)) v
theorem Vh (q:ed):dQ (BJ q) 278 nV (zA q):=mO (Ht q) (h2:=by intros;simp only[Ht,bj,bk,bl,pM,cu,cO,bD,bV,cZ])
def Hu (q:ed) {d:Type} (a:vV.den->Option d) (b:zJ.den->Option d) (c:zQ.den->Option d) (v:vV.den):Option d:=bl (pO q (bj a) (bj b) (bk c)) v
theorem Vj (q:ed):dQ (BJ q) 278 nV (zB q):=mO (Hu q) (h2:=by intros;simp only[Hu,bj,bk,bl,pO,cu,cO,bD,bV,cZ])
def Hw (q:ed) {d:Type} (a:vW.den->Option d) (b:zK.den->Option d) (c:zS.den->Option d) (v:vW.den):Option d:=bl (pU q (bj a) (bj b) (bk c)) v
theorem Vk (q:ed):dQ (BJ q) 278 nV (zC q):=mO (Hw q) (h2:=by intros;simp only[Hw,bj,bk,bl,pU,cu,cO,bD,bV,cZ])
def Hy (q:ed) {d:Type} (a:vX.den->Option d) (b:zL.den->Option d) (c:zT.den->Option d) (v:vX.den):Option d:=bl (pV q (bj a) (bj b) (bk c)) v
theorem Vl (q:ed):dQ (BJ q) 278 nV (zD q):=mO (Hy q) (h2:=by intros;simp only[Hy,bj,bk,bl,pV,cu,cO,bD,bV,cZ])
def Hz (q:ed) {d:Type} (a:vY.den->Option d) (b:zM.den->Option d) (c:zU.den->Option d) (v:vY.den):Option d:=bl (pW q (bj a) (bj b) (bk c)) v
theorem Vm (q:ed):dQ (BJ q) 278 nV (zF q):=mO (Hz q) (h2:=by intros;simp only[Hz,bj,bk,bl,pW,cu,cO,bD,bV,cZ])
theorem afX (q:ed):dO (BJ q) 278 QX:=pI [nV] (aD (fun L h=>by rw[show((BJ q)).lp 278 (dC nV)=a6 (kN (Ee q) (kN (zA q) (kN (zB q) (kN (zC q) (kN (zD q) ((zF q))))))) by kernel_rfl]at h;cases h;exact rX (adO q) (rX (Vh q) (rX (Vj q) (rX (Vk q) (rX (Vl q) ((Vm q))))))) aN)
theorem amk (q:ed) (H:GL q):eP (BJ q):=eB aN [278] (aD ⟨f278,QX,by kernel_rfl,by kernel_rfl,afX q⟩ aN) (hx:=(aD sO (aD H.2.2.2.2.2.2.2.1 (aD H.2.2.2.2.2.2.2.2.1 (aD H.2.2.2.2.2.2.2.2.2.1 (aD H.2.2.2.2.2.2.2.2.2.2.1 (aD H.2.2.2.2.2.2.2.2.2.2.2.1 (aD H.2.2.2.2.2.2.2.2.2.2.2.2.1 (aD Xr aN)))))))))
def aqP (q:ed) (g:List fJ) (h:Int) (i:List fE) (j l:Int):Option tZ:=bF (pq g h i j l) fun f=>bF (JD f.1.1 f.1.2.1 f.1.2.2.1 f.1.2.2.2.1 f.1.2.2.2.2.1) fun d=>cond d.2.1 (cond (bT 2 2) (cond (bT d.1.2.1 d.1.2.1) (cond (bT d.1.2.2.2.1 d.1.2.2.2.1) (cond (dV (bM d.1.2.2.1 [(2,(d.1.2.1,(0,(d.1.2.2.2.1,()))))]) 32) (cond (bT 2 2) (cond (bT d.1.2.1 d.1.2.1) (cond (bT d.1.2.2.2.1 d.1.2.2.2.1) (cond ((bT 2 2)&&((bT d.1.2.1 d.1.2.1)&&((bT 0 0)&&((bT d.1.2.2.2.1 d.1.2.2.2.1)&&true)))) (bF (q.q108 d.1.1 d.1.2.1 (bM d.1.2.2.1 [(2,(d.1.2.1,(0,(d.1.2.2.2.1,()))))]) (bG d.1.2.2.1) d.1.2.2.2.2.1) fun e=>cond (gm e.1.2.2.1 (bG d.1.2.2.1)) (cond (ni (dw (bG d.1.2.2.1)) e.1.2.2.1) (a6 ((e.1.1,(e.1.2.1,((ik e.1.2.2.1 (dw (bG d.1.2.2.1)) ((dD e.1.2.2.1 (0,(0,(0,(0,())))) (dw (bG d.1.2.2.1))).1,((dD e.1.2.2.1 (0,(0,(0,(0,())))) (dw (bG d.1.2.2.1))).2.1,(e.1.2.1,((dD e.1.2.2.1 (0,(0,(0,(0,())))) (dw (bG d.1.2.2.1))).2.2.2.1,()))))),(d.1.2.2.2.1,(e.1.2.2.2.2.1,()))))),())) a7) a7) a7) a7) a7) a7) a7) a7) a7) a7)<|bF (yC d.1.1 d.1.2.1 d.1.2.2.1 d.1.2.2.2.1 d.1.2.2.2.2.1) fun e=>a6 ((e.1.1,(e.1.2.1,(e.1.2.2.1,(e.1.2.2.2.1,(e.1.2.2.2.2.1,()))))),())
noncomputable def aBp (q:ed):Env:=gQ prog tt [] [(285,600002,BU),(67,600003,jL)] [] [] [(107,Ns),(108,abB q),(156,Di),(237,NH)]
theorem amw (q:ed) (H:GL q):eP (aBp q):=eB aN [] aN (hx:=(aD Bq (aD H.1 (aD qM (aD sQ aN)))))
def aqK (q:ed) (f:List fJ) (g:Int) (h:List fE) (i j:Int):Option tZ:=bF (q.q285 f g h i j) fun d=>bF (rG d.1.1 d.1.2.1 d.1.2.2.1 d.1.2.2.2.1 d.1.2.2.2.2.1 [125]) fun e=>a6 ((e.1.1,(e.1.2.1,(e.1.2.2.1,(e.1.2.2.2.1,(e.1.2.2.2.2.1,()))))),())
noncomputable def aBm (q:ed):Env:=gQ prog tt [] [] [] [] [(281,EP),(285,GG q)]
theorem amo (q:ed) (H:GL q):eP (aBm q):=eB aN [] aN (hx:=(aD sS (aD H.2.2.2.2.2.2.1 aN)))
def aqL (q:ed) (f:List fJ) (g:Int) (h:List fE) (i j:Int):Option tZ:=bF (q.q285 f g h i j) fun d=>bF (rG d.1.1 d.1.2.1 d.1.2.2.1 d.1.2.2.2.1 d.1.2.2.2.2.1 [41]) fun e=>a6 ((e.1.1,(e.1.2.1,(e.1.2.2.1,(e.1.2.2.2.1,(e.1.2.2.2.2.1,()))))),())
noncomputable def aBn (q:ed):Env:=gQ prog tt [] [] [] [] [(281,EP),(285,GG q)]
theorem amq (q:ed) (H:GL q):eP (aBn q):=eB aN [] aN (hx:=(aD sS (aD H.2.2.2.2.2.2.1 aN)))
noncomputable def aA4:Code:=(f274.body).getD .skip
noncomputable def apr:Code:=cA (cA (cA (cB (cB (cB (aA4))))))
def arP:eG:=⟨[0,100003],[],[0],[],[],[]⟩
def ZB:SQ:=⟨us bO 21,dc,da⟩
def aaj:SQ:=⟨us bO 21,dc,da⟩
def aaT:SQ:=⟨us [] 22,dc,[]⟩
def Qz (q:ed) {h:Type} (i j:(List fJ)->Int->Int->Int->(List fE)->Option h) (u:Option h) (l:List fJ) (m o p:Int) (s:List fE):Option h:=bF (lD l m s o p [101]) fun d=>cond d.2.1 (bF (q.q285 d.1.1 d.1.2.1 d.1.2.2.1 d.1.2.2.2.1 d.1.2.2.2.2.1) fun e=>bF (rG e.1.1 e.1.2.1 e.1.2.2.1 e.1.2.2.2.1 e.1.2.2.2.2.1 [116]) fun f=>bF (q.q285 f.1.1 f.1.2.1 f.1.2.2.1 f.1.2.2.2.1 f.1.2.2.2.2.1) fun g=>i g.1.1 g.1.2.1 g.1.2.2.2.1 g.1.2.2.2.2.1 g.1.2.2.1)<|j d.1.1 d.1.2.1 d.1.2.2.2.1 d.1.2.2.2.2.1 d.1.2.2.1
def J8 (q:ed):Nat->(List fJ)->Int->Int->Int->(List fE)->Option (aaj.den⊕aaT.den)
 |0,_,_,_,_,_=>a7
 |n+1,d,e,f,g,h=>Qz q (J8 q n) (fun i j l m o=>a6 (.inl ((),((),()),((i,j,l,m,()),o,())))) (a6 (.inr ((),((),()),()))) d e f g h
def axw (q:ed) (n:Nat) (v:ZB.den):=bh (J8 q n) v
noncomputable def ajh (q:ed):dA:=fK arP ZB aaj aaT (.exit 0) (axw q bJ) 6
def aqM (q:ed) (l:List fJ) (m:Int) (o:List fE) (p s:Int):Option tZ:=bF (q.q285 l m o p s) fun f=>bF (rG f.1.1 f.1.2.1 f.1.2.2.1 f.1.2.2.2.1 f.1.2.2.2.2.1 [116]) fun g=>bF (q.q285 g.1.1 g.1.2.1 g.1.2.2.1 g.1.2.2.2.1 g.1.2.2.2.2.1) fun h=>bF (J8 q bJ h.1.1 h.1.2.1 h.1.2.2.2.1 h.1.2.2.2.2.1 h.1.2.2.1) fun u=>dL u (fun i=>bF (lD i.2.2.1.1 i.2.2.1.2.1 i.2.2.2.1 i.2.2.1.2.2.1 i.2.2.1.2.2.2.1 [108]) fun d=>cond d.2.1 (bF (q.q285 d.1.1 d.1.2.1 d.1.2.2.1 d.1.2.2.2.1 d.1.2.2.2.2.1) fun e=>bF (rG e.1.1 e.1.2.1 e.1.2.2.1 e.1.2.2.2.1 e.1.2.2.2.2.1 [102]) fun j=>a6 ((j.1.1,(j.1.2.1,(j.1.2.2.1,(j.1.2.2.2.1,(j.1.2.2.2.2.1,()))))),()))<|bF (rG d.1.1 d.1.2.1 d.1.2.2.1 d.1.2.2.2.1 d.1.2.2.2.2.1 [102]) fun e=>a6 ((e.1.1,(e.1.2.1,(e.1.2.2.1,(e.1.2.2.2.1,(e.1.2.2.2.2.1,()))))),())) (fun v=>a7)
noncomputable def afn (q:ed):Env:=gQ prog tt [] [(274,3,arP)] [(274,3,ajh q)] [] [(106,xO),(281,EP),(285,GG q)]
def akE (q:ed) {d:Type} (a:ZB.den->Option d) (b:aaj.den->Option d) (c:aaT.den->Option d) (v:ZB.den):Option d:=bh (Qz q (be a) (be b) (c ((),((),()),()))) v
theorem ayj (q:ed):dQ (afn q) 274 apr (ajh q):=mO (akE q) (h2:=by intros;simp only[akE,be,bh,Qz,cu,cO,bD,bV,cZ])
theorem aCt (q:ed):dO (afn q) 274 aA4:=pI [apr] (aD (fM (ayj q)) aN)
theorem amr (q:ed) (H:GL q):eP (afn q):=eB aN [274] (aD ⟨f274,aA4,by kernel_rfl,by kernel_rfl,aCt q⟩ aN) (hx:=(aD kP (aD sS (aD H.2.2.2.2.2.2.1 aN))))
def azr (q:ed) (f:List fJ) (g:Int) (h:List fE) (i j:Int):Option tZ:=bF (q.q285 f g h i j) fun d=>bF (q.q286 d.1.1 d.1.2.1 d.1.2.2.1 d.1.2.2.2.1 d.1.2.2.2.2.1) fun e=>a6 ((e.1.1,(e.1.2.1,(e.1.2.2.1,(e.1.2.2.2.1,(e.1.2.2.2.2.1,()))))),())
noncomputable def aBo (q:ed):Env:=gQ prog tt [] [] [] [] [(285,GG q),(286,abL q)]
theorem ams (q:ed) (H:GL q):eP (aBo q):=eB aN [] aN (hx:=(aD H.2.2.2.2.2.2.1 (aD H.2.2.2.2.2.2.2.2.2.2.2.2.2.2 aN)))
noncomputable def aA5:Code:=(Tryz.f276.body).getD .skip
noncomputable def aps:Code:=cA (cA (cA (cA (cB (cB (cB (cB (cA (cB (aA5))))))))))
def arQ:eG:=⟨[0,100007],[],[0],[],[],[]⟩
def ZC:SQ:=⟨us bO 47,dc,da⟩
def aak:SQ:=⟨us bO 47,dc,da⟩
def aaU:SQ:=⟨us [] 48,dc,[]⟩
def QA (q:ed) {f:Type} (g h:(List fJ)->Int->Int->Int->(List fE)->Option f) (p:Option f) (i:List fJ) (j l m:Int) (o:List fE):Option f:=bF (NZ i j o l m) fun d=>cond d.2.1 (bF (DV d.1.1 d.1.2.1 d.1.2.2.1 d.1.2.2.2.1 d.1.2.2.2.2.1 7) fun e=>g e.1.1 e.1.2.1 e.1.2.2.2.1 e.1.2.2.2.2.1 e.1.2.2.1)<|h d.1.1 d.1.2.1 d.1.2.2.2.1 d.1.2.2.2.2.1 d.1.2.2.1
def FX (q:ed):Nat->(List fJ)->Int->Int->Int->(List fE)->Option (aak.den⊕aaU.den)
 |0,_,_,_,_,_=>a7
 |n+1,d,e,f,g,h=>QA q (FX q n) (fun i j l m o=>a6 (.inl ((),((),()),((i,j,l,m,()),o,())))) (a6 (.inr ((),((),()),()))) d e f g h
def axx (q:ed) (n:Nat) (v:ZC.den):=bh (FX q n) v
noncomputable def aji (q:ed):dA:=fK arQ ZC aak aaU (.exit 0) (axx q bJ) 6
def JA (q:ed) (d:taM):Option tZ:=bF (q.q286 d.1.1 d.1.2.1 d.1.2.2.1 d.1.2.2.2.1 d.1.2.2.2.2.1) fun e=>a6 ((e.1.1,(e.1.2.1,(e.1.2.2.1,(e.1.2.2.2.1,(e.1.2.2.2.2.1,()))))),())
def Pi (i:tZ) (q:ed):Option tZ:=bF (lD i.1.1 i.1.2.1 i.1.2.2.1 i.1.2.2.2.1 i.1.2.2.2.2.1 [59]) fun d=>cond d.2.1 (bF (pq d.1.1 d.1.2.1 d.1.2.2.1 d.1.2.2.2.1 d.1.2.2.2.2.1) fun f=>JA q f)<|bF (pq d.1.1 d.1.2.1 d.1.2.2.1 d.1.2.2.2.1 d.1.2.2.2.2.1) fun f=>bF (lD f.1.1 f.1.2.1 f.1.2.2.1 f.1.2.2.2.1 f.1.2.2.2.2.1 [107]) fun g=>cond g.2.1 (bF (FX q bJ g.1.1 g.1.2.1 g.1.2.2.2.1 g.1.2.2.2.2.1 g.1.2.2.1) fun o=>dL o (fun j=>bF (lD j.2.2.1.1 j.2.2.1.2.1 j.2.2.2.1 j.2.2.1.2.2.1 j.2.2.1.2.2.2.1 [59]) fun h=>bF (pq h.1.1 h.1.2.1 h.1.2.2.1 h.1.2.2.2.1 h.1.2.2.2.2.1) fun e=>cond (!e.2.1) (cond (!h.2.1) (bF (yC e.1.1 e.1.2.1 e.1.2.2.1 e.1.2.2.2.1 e.1.2.2.2.2.1) fun l=>bF (q.q286 l.1.1 l.1.2.1 l.1.2.2.1 l.1.2.2.2.1 l.1.2.2.2.2.1) fun m=>a6 ((m.1.1,(m.1.2.1,(m.1.2.2.1,(m.1.2.2.2.1,(m.1.2.2.2.2.1,()))))),()))<|JA q e)<|JA q e) (fun b7=>a7))<|JA q g
def aqN (q:ed) (g:List fJ) (h:Int) (i:List fE) (j l:Int):Option tZ:=bF (NZ g h i j l) fun d=>cond d.2.1 (cond (gm d.1.1 d.1.2.1) (bF (aq5 (eX d.1.1 (0,([],(0,(0,())))) d.1.2.1).2.1) fun e=>cond e.1 (bF (DV d.1.1 d.1.2.1 d.1.2.2.1 d.1.2.2.2.1 d.1.2.2.2.2.1 7) fun f=>Pi f q)<|bF (yC d.1.1 d.1.2.1 d.1.2.2.1 d.1.2.2.2.1 d.1.2.2.2.2.1) fun f=>Pi f q) a7)<|bF (yC d.1.1 d.1.2.1 d.1.2.2.1 d.1.2.2.2.1 d.1.2.2.2.2.1) fun e=>Pi e q
noncomputable def afo (q:ed):Env:=gQ prog tt [(89,aAv)] [(276,7,arQ)] [(276,7,aji q)] [] [(106,xO),(109,abC),(156,Di),(237,NH),(282,abK),(286,abL q)]
def akF (q:ed) {d:Type} (a:ZC.den->Option d) (b:aak.den->Option d) (c:aaU.den->Option d) (v:ZC.den):Option d:=bh (QA q (be a) (be b) (c ((),((),()),()))) v
theorem ayk (q:ed):dQ (afo q) 276 aps (aji q):=mO (akF q) (h2:=by intros;simp only[akF,be,bh,QA,cu,cO,bD,bV,cZ])
theorem aCu (q:ed):dO (afo q) 276 aA5:=pI [aps] (aD (fM (ayk q)) aN)
theorem amu (q:ed) (H:GL q):eP (afo q):=eB (aD aey aN) [276] (aD ⟨Tryz.f276,aA5,by kernel_rfl,by kernel_rfl,aCu q⟩ aN) (hx:=(aD kP (aD Gu (aD qM (aD sQ (aD Gz (aD H.2.2.2.2.2.2.2.2.2.2.2.2.2.2 aN)))))))
noncomputable def aA6:Code:=(Tryz.f277.body).getD .skip
noncomputable def apt:Code:=cA (cA (cA (cB (cB (cB (cB (cB (cA (aA6)))))))))
def arR:eG:=⟨[0,100004],[],[0],[],[],[]⟩
def ZE:SQ:=⟨us bO 31,dc,da⟩
def aal:SQ:=⟨us bO 31,dc,da⟩
def aaV:SQ:=⟨us [] 32,dc,[]⟩
def QB (q:ed) {l:Type} (m j:(List fJ)->Int->Int->Int->(List fE)->Option l) (x:Option l) (o:List fJ) (p s u:Int) (v:List fE):Option l:=bF (VZ o p v s u [40]) fun e=>cond e.2.1 (cond (bT 15 15) (cond (bT e.1.2.1 e.1.2.1) (cond (bT e.1.2.2.2.1 e.1.2.2.2.1) (cond (dV (bM e.1.2.2.1 [(15,(e.1.2.1,(0,(e.1.2.2.2.1,()))))]) 32) (cond (bT 15 15) (cond (bT e.1.2.1 e.1.2.1) (cond (bT e.1.2.2.2.1 e.1.2.2.2.1) (cond ((bT 15 15)&&((bT e.1.2.1 e.1.2.1)&&((bT 0 0)&&((bT e.1.2.2.2.1 e.1.2.2.2.1)&&true)))) (bF (q.q287 e.1.1 e.1.2.1 (bM e.1.2.2.1 [(15,(e.1.2.1,(0,(e.1.2.2.2.1,()))))]) (bG e.1.2.2.1) e.1.2.2.2.2.1) fun f=>cond (gm f.1.2.2.1 (bG e.1.2.2.1)) (cond (ni (dw (bG e.1.2.2.1)) f.1.2.2.1) (bF (lD f.1.1 f.1.2.1 (ik f.1.2.2.1 (dw (bG e.1.2.2.1)) ((dD f.1.2.2.1 (0,(0,(0,(0,())))) (dw (bG e.1.2.2.1))).1,((dD f.1.2.2.1 (0,(0,(0,(0,())))) (dw (bG e.1.2.2.1))).2.1,(f.1.2.1,((dD f.1.2.2.1 (0,(0,(0,(0,())))) (dw (bG e.1.2.2.1))).2.2.2.1,()))))) e.1.2.2.2.1 f.1.2.2.2.2.1 [121]) fun d=>cond (!d.2.1) (j d.1.1 d.1.2.1 d.1.2.2.2.1 d.1.2.2.2.2.1 d.1.2.2.1)<|bF (pq d.1.1 d.1.2.1 d.1.2.2.1 d.1.2.2.2.1 d.1.2.2.2.2.1) fun g=>m g.1.1 g.1.2.1 g.1.2.2.2.1 g.1.2.2.2.2.1 g.1.2.2.1) a7) a7) a7) a7) a7) a7) a7) a7) a7) a7)<|bF (NZ e.1.1 e.1.2.1 e.1.2.2.1 e.1.2.2.2.1 e.1.2.2.2.2.1) fun f=>cond f.2.1 (bF (yA f.1.1 f.1.2.1 f.1.2.2.1 f.1.2.2.2.1 f.1.2.2.2.2.1 0) fun d=>cond (!(bT d.2.1 122)) (cond (bT 15 15) (cond (bT d.1.2.1 d.1.2.1) (cond (bT d.1.2.2.2.1 d.1.2.2.2.1) (cond (dV (bM d.1.2.2.1 [(15,(d.1.2.1,(0,(d.1.2.2.2.1,()))))]) 32) (cond (bT 15 15) (cond (bT d.1.2.1 d.1.2.1) (cond (bT d.1.2.2.2.1 d.1.2.2.2.1) (cond ((bT 15 15)&&((bT d.1.2.1 d.1.2.1)&&((bT 0 0)&&((bT d.1.2.2.2.1 d.1.2.2.2.1)&&true)))) (bF (q.q287 d.1.1 d.1.2.1 (bM d.1.2.2.1 [(15,(d.1.2.1,(0,(d.1.2.2.2.1,()))))]) (bG d.1.2.2.1) d.1.2.2.2.2.1) fun g=>cond (gm g.1.2.2.1 (bG d.1.2.2.1)) (cond (ni (dw (bG d.1.2.2.1)) g.1.2.2.1) (bF (lD g.1.1 g.1.2.1 (ik g.1.2.2.1 (dw (bG d.1.2.2.1)) ((dD g.1.2.2.1 (0,(0,(0,(0,())))) (dw (bG d.1.2.2.1))).1,((dD g.1.2.2.1 (0,(0,(0,(0,())))) (dw (bG d.1.2.2.1))).2.1,(g.1.2.1,((dD g.1.2.2.1 (0,(0,(0,(0,())))) (dw (bG d.1.2.2.1))).2.2.2.1,()))))) d.1.2.2.2.1 g.1.2.2.2.2.1 [121]) fun h=>cond (!h.2.1) (j h.1.1 h.1.2.1 h.1.2.2.2.1 h.1.2.2.2.2.1 h.1.2.2.1)<|bF (pq h.1.1 h.1.2.1 h.1.2.2.1 h.1.2.2.2.1 h.1.2.2.2.2.1) fun i=>m i.1.1 i.1.2.1 i.1.2.2.2.1 i.1.2.2.2.2.1 i.1.2.2.1) a7) a7) a7) a7) a7) a7) a7) a7) a7) a7)<|j d.1.1 d.1.2.1 d.1.2.2.2.1 d.1.2.2.2.2.1 d.1.2.2.1)<|j f.1.1 f.1.2.1 f.1.2.2.2.1 f.1.2.2.2.2.1 f.1.2.2.1
def FY (q:ed):Nat->(List fJ)->Int->Int->Int->(List fE)->Option (aal.den⊕aaV.den)
 |0,_,_,_,_,_=>a7
 |n+1,d,e,f,g,h=>QB q (FY q n) (fun i j l m o=>a6 (.inl ((),((),()),((i,j,l,m,()),o,())))) (a6 (.inr ((),((),()),()))) d e f g h
def axy (q:ed) (n:Nat) (v:ZE.den):=bh (FY q n) v
noncomputable def ajj (q:ed):dA:=fK arR ZE aal aaV (.exit 0) (axy q bJ) 6
def aqO (q:ed) (j:List fJ) (l:Int) (m:List fE) (o p:Int):Option tZ:=bF (NY j l m o p) fun d=>bF (pq d.1.1 d.1.2.1 d.1.2.2.1 d.1.2.2.2.1 d.1.2.2.2.2.1) fun e=>bF (rG e.1.1 e.1.2.1 e.1.2.2.1 e.1.2.2.2.1 e.1.2.2.2.2.1 [107]) fun f=>bF (pq f.1.1 f.1.2.1 f.1.2.2.1 f.1.2.2.2.1 f.1.2.2.2.2.1) fun g=>bF (FY q bJ g.1.1 g.1.2.1 g.1.2.2.2.1 g.1.2.2.2.2.1 g.1.2.2.1) fun s=>dL s (fun h=>bF (rG h.2.2.1.1 h.2.2.1.2.1 h.2.2.2.1 h.2.2.1.2.2.1 h.2.2.1.2.2.2.1 [122]) fun i=>a6 ((i.1.1,(i.1.2.1,(i.1.2.2.1,(i.1.2.2.2.1,(i.1.2.2.2.2.1,()))))),())) (fun u=>a7)
noncomputable def afp (q:ed):Env:=gQ prog tt [] [(277,4,arR),(277,600005,BU),(67,600003,jL)] [(277,4,ajj q)] [] [(106,xO),(152,auG),(153,ahf),(156,Di),(280,abJ),(281,EP),(282,abK),(287,ald q)]
def akG (q:ed) {d:Type} (a:ZE.den->Option d) (b:aal.den->Option d) (c:aaV.den->Option d) (v:ZE.den):Option d:=bh (QB q (be a) (be b) (c ((),((),()),()))) v
theorem ayl (q:ed):dQ (afp q) 277 apt (ajj q):=mO (akG q) (h2:=by intros;simp only[akG,be,bh,QB,cu,cO,bD,bV,cZ])
theorem aCv (q:ed):dO (afp q) 277 aA6:=pI [apt] (aD (fM (ayl q)) aN)
theorem amv (q:ed) (H:GL q):eP (afp q):=eB aN [277] (aD ⟨Tryz.f277,aA6,by kernel_rfl,by kernel_rfl,aCv q⟩ aN) (hx:=(aD kP (aD Ny (aD sO (aD qM (aD Gy (aD sS (aD Gz (aD H.2.2.2.2.2.2.2.2.2.2.2.2.2.1 aN)))))))))
noncomputable def aA7:Code:=(f287.body).getD .skip
noncomputable def apu:Code:=cA (cA (cA (cB (cB (aA7)))))
def arS:eG:=⟨[0,100002],[],[0],[],[],[]⟩
def ZF:SQ:=⟨us bO 19,dc,da⟩
def aam:SQ:=⟨us bO 19,dc,da⟩
def aaW:SQ:=⟨us [] 20,dc,[]⟩
def QC (q:ed) {f:Type} (g h:(List fJ)->Int->Int->Int->(List fE)->Option f) (p:Option f) (i:List fJ) (j l m:Int) (o:List fE):Option f:=bF (lD i j o l m [124]) fun d=>cond d.2.1 (bF (NY d.1.1 d.1.2.1 d.1.2.2.1 d.1.2.2.2.1 d.1.2.2.2.2.1) fun e=>g e.1.1 e.1.2.1 e.1.2.2.2.1 e.1.2.2.2.2.1 e.1.2.2.1)<|h d.1.1 d.1.2.1 d.1.2.2.2.1 d.1.2.2.2.2.1 d.1.2.2.1
def J9 (q:ed):Nat->(List fJ)->Int->Int->Int->(List fE)->Option (aam.den⊕aaW.den)
 |0,_,_,_,_,_=>a7
 |n+1,d,e,f,g,h=>QC q (J9 q n) (fun i j l m o=>a6 (.inl ((),((),()),((i,j,l,m,()),o,())))) (a6 (.inr ((),((),()),()))) d e f g h
def axz (q:ed) (n:Nat) (v:ZF.den):=bh (J9 q n) v
noncomputable def ajk (q:ed):dA:=fK arS ZF aam aaW (.exit 0) (axz q bJ) 6
def aqR (q:ed) (l:List fJ) (m:Int) (o:List fE) (p s:Int):Option tZ:=bF (lD l m o p s [40]) fun f=>bF (NY f.1.1 f.1.2.1 f.1.2.2.1 f.1.2.2.2.1 f.1.2.2.2.2.1) fun g=>bF (J9 q bJ g.1.1 g.1.2.1 g.1.2.2.2.1 g.1.2.2.2.2.1 g.1.2.2.1) fun u=>dL u (fun h=>bF (rG h.2.2.1.1 h.2.2.1.2.1 h.2.2.2.1 h.2.2.1.2.2.1 h.2.2.1.2.2.2.1 [41]) fun i=>bF (pq i.1.1 i.1.2.1 i.1.2.2.1 i.1.2.2.2.1 i.1.2.2.2.2.1) fun j=>bF (JD j.1.1 j.1.2.1 j.1.2.2.1 j.1.2.2.2.1 j.1.2.2.2.2.1) fun d=>cond d.2.1 (cond (bT 2 2) (cond (bT d.1.2.1 d.1.2.1) (cond (bT d.1.2.2.2.1 d.1.2.2.2.1) (cond (dV (bM d.1.2.2.1 [(2,(d.1.2.1,(0,(d.1.2.2.2.1,()))))]) 32) (cond (bT 2 2) (cond (bT d.1.2.1 d.1.2.1) (cond (bT d.1.2.2.2.1 d.1.2.2.2.1) (cond ((bT 2 2)&&((bT d.1.2.1 d.1.2.1)&&((bT 0 0)&&((bT d.1.2.2.2.1 d.1.2.2.2.1)&&true)))) (bF (q.q108 d.1.1 d.1.2.1 (bM d.1.2.2.1 [(2,(d.1.2.1,(0,(d.1.2.2.2.1,()))))]) (bG d.1.2.2.1) d.1.2.2.2.2.1) fun e=>cond (gm e.1.2.2.1 (bG d.1.2.2.1)) (cond (ni (dw (bG d.1.2.2.1)) e.1.2.2.1) (a6 ((e.1.1,(e.1.2.1,((ik e.1.2.2.1 (dw (bG d.1.2.2.1)) ((dD e.1.2.2.1 (0,(0,(0,(0,())))) (dw (bG d.1.2.2.1))).1,((dD e.1.2.2.1 (0,(0,(0,(0,())))) (dw (bG d.1.2.2.1))).2.1,(e.1.2.1,((dD e.1.2.2.1 (0,(0,(0,(0,())))) (dw (bG d.1.2.2.1))).2.2.2.1,()))))),(d.1.2.2.2.1,(e.1.2.2.2.2.1,()))))),())) a7) a7) a7) a7) a7) a7) a7) a7) a7) a7)<|some ((d.1.1,(d.1.2.1,(d.1.2.2.1,(d.1.2.2.2.1,(d.1.2.2.2.2.1,()))))),())) (fun v=>a7)
noncomputable def afq (q:ed):Env:=gQ prog tt [] [(287,2,arS),(287,600007,BU),(67,600003,jL)] [(287,2,ajk q)] [] [(106,xO),(107,Ns),(108,abB q),(156,Di),(280,abJ),(281,EP)]
def akH (q:ed) {d:Type} (a:ZF.den->Option d) (b:aam.den->Option d) (c:aaW.den->Option d) (v:ZF.den):Option d:=bh (QC q (be a) (be b) (c ((),((),()),()))) v
theorem aym (q:ed):dQ (afq q) 287 apu (ajk q):=mO (akH q) (h2:=by intros;simp only[akH,be,bh,QC,cu,cO,bD,bV,cZ])
theorem aCw (q:ed):dO (afq q) 287 aA7:=pI [apu] (aD (fM (aym q)) aN)
theorem amy (q:ed) (H:GL q):eP (afq q):=eB aN [287] (aD ⟨f287,aA7,by kernel_rfl,by kernel_rfl,aCw q⟩ aN) (hx:=(aD kP (aD Bq (aD H.1 (aD qM (aD Gy (aD sS aN)))))))
def aqQ (q:ed) (g:List fJ) (h:Int) (i:List fE) (j l:Int):Option tZ:=bF (rG g h i j l [100]) fun d=>bF (q.q285 d.1.1 d.1.2.1 d.1.2.2.1 d.1.2.2.2.1 d.1.2.2.2.2.1) fun e=>bF (rG e.1.1 e.1.2.1 e.1.2.2.1 e.1.2.2.2.1 e.1.2.2.2.2.1 [103]) fun f=>a6 ((f.1.1,(f.1.2.1,(f.1.2.2.1,(f.1.2.2.2.1,(f.1.2.2.2.2.1,()))))),())
noncomputable def aBq (q:ed):Env:=gQ prog tt [] [] [] [] [(281,EP),(285,GG q)]
theorem amx (q:ed) (H:GL q):eP (aBq q):=eB aN [] aN (hx:=(aD sS (aD H.2.2.2.2.2.2.1 aN)))
def dW:Nat->ed
 |0=>⟨(fun _ _ _ _ _=>a7),(fun _ _ _ _ _=>a7),(fun _ _ _ _ _=>a7),(fun _ _ _ _ _=>a7),(fun _ _ _ _ _=>a7),(fun _ _ _ _ _=>a7),(fun _ _ _ _ _=>a7),(fun _ _ _ _ _=>a7),(fun _ _ _ _ _=>a7),(fun _ _ _ _ _=>a7),(fun _ _ _ _ _=>a7),(fun _ _ _ _ _=>a7),(fun _ _ _ _ _=>a7),(fun _ _ _ _ _=>a7),(fun _ _ _ _ _=>a7)⟩
 |r+1=>⟨aqA (dW r),aqC (dW r),acr (dW r),aqE (dW r),aqJ (dW r),Aw (dW r),aqP (dW r),aqK (dW r),aqL (dW r),aqM (dW r),azr (dW r),aqN (dW r),aqO (dW r),aqR (dW r),aqQ (dW r)⟩
def aqX (d:List fJ) (e:Int) (f:List fE) (g h:Int):Option tZ:=(dW bJ).q108 d e f g h
def auo:fF:=⟨117,xX,[],[],fun x y=>aqX x.1 x.2.1 x.2.2.1 x.2.2.2.1 x.2.2.2.2.1⟩
def aGn (d:List fJ) (e:Int) (f:List fE) (g h:Int):Option tZ:=(dW bJ).q155 d e f g h
def aEl:fF:=⟨117,xX,[],[],fun x y=>aGn x.1 x.2.1 x.2.2.1 x.2.2.2.1 x.2.2.2.2.1⟩
def aGp (d:List fJ) (e:Int) (f:List fE) (g h:Int):Option tZ:=(dW bJ).q205 d e f g h
def aEC:fF:=⟨117,xX,[],[],fun x y=>aGp x.1 x.2.1 x.2.2.1 x.2.2.2.1 x.2.2.2.2.1⟩
def aGr (d:List fJ) (e:Int) (f:List fE) (g h:Int):Option tZ:=(dW bJ).q239 d e f g h
def aEM:fF:=⟨117,xX,[],[],fun x y=>aGr x.1 x.2.1 x.2.2.1 x.2.2.2.1 x.2.2.2.2.1⟩
def aGx (d:List fJ) (e:Int) (f:List fE) (g h:Int):Option tZ:=(dW bJ).q266 d e f g h
def aEW:fF:=⟨117,xX,[],[],fun x y=>aGx x.1 x.2.1 x.2.2.1 x.2.2.2.1 x.2.2.2.2.1⟩
def aGw (d:List fJ) (e:Int) (f:List fE) (g h:Int):Option tZ:=(dW bJ).q263 d e f g h
def aEV:fF:=⟨117,xX,[],[],fun x y=>aGw x.1 x.2.1 x.2.2.1 x.2.2.2.1 x.2.2.2.2.1⟩
def aGE (d:List fJ) (e:Int) (f:List fE) (g h:Int):Option tZ:=(dW bJ).q285 d e f g h
def aE4:fF:=⟨117,xX,[],[],fun x y=>aGE x.1 x.2.1 x.2.2.1 x.2.2.2.1 x.2.2.2.2.1⟩
def aGy (d:List fJ) (e:Int) (f:List fE) (g h:Int):Option tZ:=(dW bJ).q272 d e f g h
def aEY:fF:=⟨117,xX,[],[],fun x y=>aGy x.1 x.2.1 x.2.2.1 x.2.2.2.1 x.2.2.2.2.1⟩
def aGz (d:List fJ) (e:Int) (f:List fE) (g h:Int):Option tZ:=(dW bJ).q273 d e f g h
def aEZ:fF:=⟨117,xX,[],[],fun x y=>aGz x.1 x.2.1 x.2.2.1 x.2.2.2.1 x.2.2.2.2.1⟩
def aGA (d:List fJ) (e:Int) (f:List fE) (g h:Int):Option tZ:=(dW bJ).q274 d e f g h
def aE0:fF:=⟨117,xX,[],[],fun x y=>aGA x.1 x.2.1 x.2.2.1 x.2.2.2.1 x.2.2.2.2.1⟩
def aGB (d:List fJ) (e:Int) (f:List fE) (g h:Int):Option tZ:=(dW bJ).q275 d e f g h
def aE1:fF:=⟨117,xX,[],[],fun x y=>aGB x.1 x.2.1 x.2.2.1 x.2.2.2.1 x.2.2.2.2.1⟩
def aGC (d:List fJ) (e:Int) (f:List fE) (g h:Int):Option tZ:=(dW bJ).q276 d e f g h
def aE2:fF:=⟨117,xX,[],[],fun x y=>aGC x.1 x.2.1 x.2.2.1 x.2.2.2.1 x.2.2.2.2.1⟩
def aGD (d:List fJ) (e:Int) (f:List fE) (g h:Int):Option tZ:=(dW bJ).q277 d e f g h
def aE3:fF:=⟨117,xX,[],[],fun x y=>aGD x.1 x.2.1 x.2.2.1 x.2.2.2.1 x.2.2.2.2.1⟩
def aGG (d:List fJ) (e:Int) (f:List fE) (g h:Int):Option tZ:=(dW bJ).q287 d e f g h
def aE6:fF:=⟨117,xX,[],[],fun x y=>aGG x.1 x.2.1 x.2.2.1 x.2.2.2.1 x.2.2.2.2.1⟩
def aGF (d:List fJ) (e:Int) (f:List fE) (g h:Int):Option tZ:=(dW bJ).q286 d e f g h
def aE5:fF:=⟨117,xX,[],[],fun x y=>aGF x.1 x.2.1 x.2.2.1 x.2.2.2.1 x.2.2.2.2.1⟩
theorem aaa (q:ed) (d:GL q):GL ⟨aqA q,aqC q,acr q,aqE q,aqJ q,Aw q,aqP q,aqK q,aqL q,aqM q,azr q,aqN q,aqO q,aqR q,aqQ q⟩:=⟨sB (alJ q d),sB (alU q d),sB (al5 q d),sB (amc q d),sB (aml q d),sB (amk q d),sB (amw q d),sB (amo q d),sB (amq q d),sB (amr q d),sB (ams q d),sB (amu q d),sB (amv q d),sB (amy q d),sB (amx q d)⟩
theorem lM: ∀r,GL (dW r)
 |0=>⟨nO fun _ _=>rfl,nO fun _ _=>rfl,nO fun _ _=>rfl,nO fun _ _=>rfl,nO fun _ _=>rfl,nO fun _ _=>rfl,nO fun _ _=>rfl,nO fun _ _=>rfl,nO fun _ _=>rfl,nO fun _ _=>rfl,nO fun _ _=>rfl,nO fun _ _=>rfl,nO fun _ _=>rfl,nO fun _ _=>rfl,nO fun _ _=>rfl⟩
 |r+1=>aaa _ (lM r)
theorem anw:dI prog 108 auo:=(lM bJ).1
theorem aFo:dI prog 155 aEl:=(lM bJ).2.1
theorem aFq:dI prog 205 aEC:=(lM bJ).2.2.1
theorem aFs:dI prog 239 aEM:=(lM bJ).2.2.2.1
theorem aFy:dI prog 266 aEW:=(lM bJ).2.2.2.2.1
theorem aFx:dI prog 263 aEV:=(lM bJ).2.2.2.2.2.1
theorem aFF:dI prog 285 aE4:=(lM bJ).2.2.2.2.2.2.1
theorem aFz:dI prog 272 aEY:=(lM bJ).2.2.2.2.2.2.2.1
theorem aFA:dI prog 273 aEZ:=(lM bJ).2.2.2.2.2.2.2.2.1
theorem aFB:dI prog 274 aE0:=(lM bJ).2.2.2.2.2.2.2.2.2.1
theorem aFC:dI prog 275 aE1:=(lM bJ).2.2.2.2.2.2.2.2.2.2.1
theorem aFD:dI prog 276 aE2:=(lM bJ).2.2.2.2.2.2.2.2.2.2.2.1
theorem aFE:dI prog 277 aE3:=(lM bJ).2.2.2.2.2.2.2.2.2.2.2.2.1
theorem aFH:dI prog 287 aE6:=(lM bJ).2.2.2.2.2.2.2.2.2.2.2.2.2.1
theorem aFG:dI prog 286 aE5:=(lM bJ).2.2.2.2.2.2.2.2.2.2.2.2.2.2
noncomputable def b68:Code:=(f68.body).getD .skip
noncomputable def azg:Code:=cA (cA (cB (b68)))
def azG:eG:=⟨[0,2,100001],[],[],[],[],[]⟩
def ajG:SQ:=⟨us [ct,.u,cg] 26,dc,da⟩
def ags:SQ:=⟨us [] 29,dc,da⟩
def agM:SQ:=⟨us [] 29,dc,[]⟩
def abt {g:Type} (h:Bool->(List fJ)->Int->Int->Int->(List fE)->Option g) (q:(List fJ)->Int->Int->Int->(List fE)->Option g) (s:Option g) (l:Bool) (i:List fJ) (j m o:Int) (p:List fE):Option g:=cond (iq j (bG i)) (bF (lD i j p m o [110]) fun e=>cond e.2.1 (h l e.1.1 e.1.2.1 e.1.2.2.2.1 e.1.2.2.2.2.1 e.1.2.2.1)<|cond (!l) (bF (JD e.1.1 e.1.2.1 e.1.2.2.1 e.1.2.2.2.1 e.1.2.2.2.2.1) fun d=>cond d.2.1 (cond (bT 2 2) (cond (bT d.1.2.1 d.1.2.1) (cond (bT d.1.2.2.2.1 d.1.2.2.2.1) (cond (dV (bM d.1.2.2.1 [(2,(d.1.2.1,(0,(d.1.2.2.2.1,()))))]) 32) (cond (bT 2 2) (cond (bT d.1.2.1 d.1.2.1) (cond (bT d.1.2.2.2.1 d.1.2.2.2.1) (cond ((bT 2 2)&&((bT d.1.2.1 d.1.2.1)&&((bT 0 0)&&((bT d.1.2.2.2.1 d.1.2.2.2.1)&&true)))) (bF (aqX d.1.1 d.1.2.1 (bM d.1.2.2.1 [(2,(d.1.2.1,(0,(d.1.2.2.2.1,()))))]) (bG d.1.2.2.1) d.1.2.2.2.2.1) fun f=>cond (gm f.1.2.2.1 (bG d.1.2.2.1)) (cond (ni (dw (bG d.1.2.2.1)) f.1.2.2.1) (h true f.1.1 f.1.2.1 d.1.2.2.2.1 f.1.2.2.2.2.1 (ik f.1.2.2.1 (dw (bG d.1.2.2.1)) ((dD f.1.2.2.1 (0,(0,(0,(0,())))) (dw (bG d.1.2.2.1))).1,((dD f.1.2.2.1 (0,(0,(0,(0,())))) (dw (bG d.1.2.2.1))).2.1,(f.1.2.1,((dD f.1.2.2.1 (0,(0,(0,(0,())))) (dw (bG d.1.2.2.1))).2.2.2.1,())))))) a7) a7) a7) a7) a7) a7) a7) a7) a7) a7)<|bF (DV d.1.1 d.1.2.1 d.1.2.2.1 d.1.2.2.2.1 d.1.2.2.2.2.1 17) fun f=>h false f.1.1 f.1.2.1 f.1.2.2.2.1 f.1.2.2.2.2.1 f.1.2.2.1)<|bF (DV e.1.1 e.1.2.1 e.1.2.2.1 e.1.2.2.2.1 e.1.2.2.2.2.1 17) fun d=>h false d.1.1 d.1.2.1 d.1.2.2.2.1 d.1.2.2.2.2.1 d.1.2.2.1)<|q i j m o p
def ML:Nat->Bool->(List fJ)->Int->Int->Int->(List fE)->Option (ags.den⊕agM.den)
 |0,_,_,_,_,_,_=>a7
 |n+1,d,e,f,g,h,i=>abt (ML n) (fun j l m o p=>a6 (.inl ((),((),()),((j,l,m,o,()),p,())))) (a6 (.inr ((),((),()),()))) d e f g h i
def aCK (n:Nat) (v:ajG.den):=bc (ML n) v
noncomputable def asB:dA:=fK azG ajG ags agM (.exit 0) (aCK bJ) 6
def aBC (e:List fJ) (f:Int) (g:List fE) (h i:Int):Option tZ:=bF (ML bJ false e f h i g) fun j=>dL j (fun d=>a6 ((d.2.2.1.1,(d.2.2.1.2.1,(d.2.2.2.1,(d.2.2.1.2.2.1,(d.2.2.1.2.2.2.1,()))))),())) (fun l=>a7)
def aHS:fF:=⟨117,xX,[],[],fun x y=>aBC x.1 x.2.1 x.2.2.1 x.2.2.2.1 x.2.2.2.2.1⟩
noncomputable def ap8:Env:=gQ prog tt [] [(68,1,azG),(68,600006,BU),(67,600003,jL)] [(68,1,asB)] [] [(106,xO),(107,Ns),(108,auo),(109,abC)]
def atN {d:Type} (a:ajG.den->Option d) (b:ags.den->Option d) (c:agM.den->Option d) (v:ajG.den):Option d:=bc (abt (bb a) (be b) (c ((),((),()),()))) v
theorem aDd:dQ ap8 68 azg asB:=mO (atN) (h2:=by intros;simp only[atN,bb,be,bc,abt,cu,cO,bD,bV,cZ])
theorem aHg:dO ap8 68 b68:=pI [azg] (aD (fM (aDd)) aN)
theorem ap9:eP ap8:=eB aN [68] (aD ⟨f68,b68,by kernel_rfl,by kernel_rfl,aHg⟩ aN) (hx:=(aD kP (aD Bq (aD anw (aD Gu aN)))))
theorem avd:dI prog 68 aHS:=sB ap9
def arZ:eG:=⟨[3],[],[],[],[],[]⟩
def amK (e:List fJ):Option ((List fE)×Unit):=cond (bT 1 1) (cond (bT 0 0) (cond (bT (-1) (-1)) (cond (dV [(1,(0,(0,((-1),()))))] 32) (cond (bT 1 1) (cond (bT 0 0) (cond (bT (-1) (-1)) (cond ((bT 1 1)&&((bT 0 0)&&((bT 0 0)&&((bT (-1) (-1))&&true)))) (bF (aBC e 0 [(1,(0,(0,((-1),()))))] 0 0) fun d=>cond (gm d.1.2.2.1 0) (cond (ni (dw 0) d.1.2.2.1) (a6 ((ik d.1.2.2.1 (dw 0) ((dD d.1.2.2.1 (0,(0,(0,(0,())))) (dw 0)).1,((dD d.1.2.2.1 (0,(0,(0,(0,())))) (dw 0)).2.1,(d.1.2.1,((dD d.1.2.2.1 (0,(0,(0,(0,())))) (dw 0)).2.2.2.1,()))))),())) a7) a7) a7) a7) a7) a7) a7) a7) a7) a7
def aAi:Sum:=⟨[nR],[(.list oZ,false)],fun x=>amK x.1⟩
theorem aev:dK prog 30 aAi:=qC [(30,600002,arZ),(67,600003,jL)] aN (sF avd aN)
noncomputable def b71:Code:=(f71.body).getD .skip
noncomputable def azj:Code:=cA (cA (cB (cA (cB (cB (cB (b71)))))))
def azJ:eG:=⟨[3,4,100005],[],[],[],[2],[]⟩
def ajJ:SP:=⟨us [.u,.u,.u,bS,bR] 25,[]⟩
def agv:SP:=⟨us [] 30,[]⟩
def agP:SP:=⟨us [.u,.u,cg] 27,[]⟩
def abv {f:Type} (g:bW->Int->Option f) (h:Option f) (i:Bool->Option f) (e:bW) (d:Int):Option f:=cond (leI (bZ .i64 d (bG e)) 65) (cond (eU (bG [32,33,32,123,32,125,32,99,97,115,101,32,100,111,32,100,111,110,101,32,101,108,105,102,32,101,108,115,101,32,101,115,97,99,32,102,105,32,102,111,114,32,105,102,32,105,110,32,116,104,101,110,32,117,110,116,105,108,32,119,104,105,108,101,32]) d (bZ .i64 d (bG e))) (cond (gI (sub [32,33,32,123,32,125,32,99,97,115,101,32,100,111,32,100,111,110,101,32,101,108,105,102,32,101,108,115,101,32,101,115,97,99,32,102,105,32,102,111,114,32,105,102,32,105,110,32,116,104,101,110,32,117,110,116,105,108,32,119,104,105,108,101,32] d (bZ .i64 d (bG e))) e) (i true)<|g e (bZ .i64 d 1)) a7) h
def SL:Nat->bW->Int->Option (agv.den⊕agP.den)
 |0,_,_=>a7
 |n+1,d,e=>abv (SL n) (a6 (.inl ((),()))) (fun f=>a6 (.inr ((f,()),()))) d e
def aCN (n:Nat) (v:ajJ.den):=SL n v.1.1 v.1.2.1
noncomputable def asE:dA:=fH azJ ajJ agv agP (.exit 0) (aCN bJ) 6
def aws (d:bW):Option uO:=cond (bT (bG d) 0) (a6 (false,()))<|bF (Md 32 d) fun e=>cond e.1 (a6 (false,()))<|cond (iD [32] d) (cond (iD (bM [32] d) [32]) (bF (SL bJ (bM (bM [32] d) [32]) 0) fun f=>dL f (fun h=>a6 (false,())) (fun g=>a6 (g.1.1,()))) a7) a7
def aAr:Sum:=⟨[.str],O7,fun x=>aws x.1⟩
noncomputable def aqd:Env:=iU prog tt 71 [(73,aAs)] [(5,azJ)] [(5,asE)]
def atQ {d:Type} (a:ajJ.den->Option d) (b:agv.den->Option d) (c:agP.den->Option d) (v:ajJ.den):Option d:=abv (aL a) (b ((),())) (aE c) v.1.1 v.1.2.1
theorem aDg:dQ aqd 71 azj asE:=vS (atQ) (h2:=by intros;simp only[atQ,aL,aE,abv,cu,cO,bD,bV,cZ])
theorem aHj:dO aqd 71 b71:=pI [azj] (aD (fM (aDg)) aN)
theorem aqe:eP aqd:=eA f71 (aD Lu aN) (aHj)
theorem avf:dK prog 71 aAr:=sA aqe
noncomputable def b32:Code:=(f32.body).getD .skip
noncomputable def azb:Code:=cA (cA (cB (cA (cA (cB (cA (cB (cB (cB (b32))))))))))
def azD:eG:=⟨[1,3,100007],[],[],[],[2],[]⟩
def ajB:SP:=⟨us [.u,cH,.u,bR] 59,[.box 1000001 43 [bR,bS,bR,bR]]⟩
def agn:SP:=⟨us [] 63,[]⟩
def agI:SP:=⟨us eb 60,[]⟩
def abq {e:Type} (g:Int->Int->bW->Int->Int->Option e) (h:Option e) (i:bW->Option e) (d j:Int) (f:bW) (l m:Int):Option e:=cond (leI d 17) (bF (Yr d) fun o=>cond (gI o.1 f) (cond (eU (bG [97,111,121,60,60,60,60,60,60,60,60,60,38,59,124,40,41]) (eF .i64 d 1) d) (i (sub [97,111,121,60,60,60,60,60,60,60,60,60,38,59,124,40,41] (eF .i64 d 1) d)) a7)<|g (bZ .i64 d 1) j f l m) h
def SI:Nat->Int->Int->bW->Int->Int->Option (agn.den⊕agI.den)
 |0,_,_,_,_,_=>a7
 |n+1,d,e,f,g,h=>abq (SI n) (a6 (.inl ((),()))) (fun i=>a6 (.inr ((i,()),()))) d e f g h
def aCF (n:Nat) (v:ajB.den):=SI n v.1.1 v.2.1.1 v.2.1.2.1 v.2.1.2.2.1 v.2.1.2.2.2.1
noncomputable def asw:dA:=fH azD ajB agn agI (.exit 0) (aCF bJ) 6
def lY (d:fJ):Option vC:=cond (bT d.1 2) (a6 ([110],()))<|cond (bT d.1 5) (a6 ([35],()))<|cond (bT d.1 4) (bF (SI bJ 1 d.1 d.2.1 d.2.2.1 d.2.2.2.1) fun e=>dL e (fun g=>a6 ([63],())) (fun f=>a6 (f.1.1,())))<|cond (!(bT d.1 6)) (a6 ([63],()))<|bF (aws d.2.1) fun e=>cond (!e.1) (a6 ([120],()))<|cond (bT (bG d.2.1) 1) (a6 (d.2.1,()))<|cond (gI d.2.1 [105,102]) (a6 ([105],()))<|cond (gI d.2.1 [105,110]) (a6 ([107],()))<|cond (gI d.2.1 [101,108,115,101]) (a6 ([108],()))<|cond (gI d.2.1 [101,115,97,99]) (a6 ([122],()))<|cond (gI d.2.1 [102,111,114]) (a6 ([114],()))<|cond (gI d.2.1 [100,111,110,101]) (a6 ([103],()))<|cond (gI d.2.1 [117,110,116,105,108]) (a6 ([119],()))<|cond (eU (bG d.2.1) 0 1) (a6 ((sub d.2.1 0 1),())) a7
def aAk:Sum:=⟨[NJ],GX,fun x=>lY x.1⟩
noncomputable def apY:Env:=iU prog tt 32 [(71,aAr),(70,alf)] [(7,azD)] [(7,asw)]
def atH {d:Type} (a:ajB.den->Option d) (b:agn.den->Option d) (c:agI.den->Option d) (v:ajB.den):Option d:=abq (fun e f g h i=>a ((e,()),((f,g,h,i,()),()))) (b ((),())) (aE c) v.1.1 v.2.1.1 v.2.1.2.1 v.2.1.2.2.1 v.2.1.2.2.2.1
theorem aC8:dQ apY 32 azb asw:=vS (atH) (h2:=by intros;simp only[atH,aE,abq,cu,cO,bD,bV,cZ])
theorem aHb:dO apY 32 b32:=pI [azb] (aD (fM (aC8)) aN)
theorem apZ:eP apY:=eA f32 (aD avf (aD UD aN)) (aHb)
theorem au7:dK prog 32 aAk:=sA apZ
def aq2 (d:Int):Option uO:=cond (leI 9 d) (cond (leI d 14) (a6 (true,()))<|some ((bT d 16),()))<|some ((bT d 16),())
def aHU:Sum:=⟨[di],O7,fun x=>aq2 x.1⟩
theorem aew:dK prog 72 aHU:=qA f72 [] aN
def Dz (h:List fJ) (i:bW) (g:List fE) (d e j f:Int):Option (taF×lW):=cond (bT f f) (cond (bT d d) (cond (bT e e) (cond (dV (bM g [(f,(d,(0,(e,()))))]) 32) (cond (bT f f) (cond (bT d d) (cond (bT e e) (cond ((bT f f)&&((bT d d)&&((bT 0 0)&&((bT e e)&&true)))) (bF (aq2 f) fun l=>cond l.1 (a6 ((h,(i,((bM g [(f,(d,(0,(e,()))))]),(d,((eF .i64 (bG (bM g [(f,(d,(0,(e,()))))])) 1),((bZ .i64 j 1),())))))),(e,())))<|some ((h,(i,((bM g [(f,(d,(0,(e,()))))]),(d,((eF .i64 (bG (bM g [(f,(d,(0,(e,()))))])) 1),(j,())))))),(e,()))) a7) a7) a7) a7) a7) a7) a7) a7
def OT:fF:=⟨82,I4,[di],[di],fun x y=>Dz x.1 x.2.1 x.2.2.1 x.2.2.2.1 x.2.2.2.2.1 x.2.2.2.2.2.1 y.1⟩
theorem pX:dI prog 33 OT:=qB [] (sE aew aN)
def nP (f:List fJ) (d:bW) (g:List fE) (e h i:Int) (j:bW):Option (taF×uO):=cond (iq e (bG d)) (cond (gm d e) (bF (Md (bY d e) j) fun l=>a6 ((f,(d,(g,(e,(h,(i,())))))),(l.1,()))) a7)<|some ((f,(d,(g,(e,(h,(i,())))))),(false,()))
def H6:fF:=⟨82,I4,[.str],[.bool],fun x y=>nP x.1 x.2.1 x.2.2.1 x.2.2.2.1 x.2.2.2.2.1 x.2.2.2.2.2.1 y.1⟩
theorem kG:dI prog 34 H6:=qB [] (sE Lu aN)
def VX (f:List fJ) (g:bW) (h:List fE) (i j l:Int):Option (taF×uO):=bF (nP f g h i j l [60]) fun e=>cond e.2.1 (a6 ((e.1.1,(e.1.2.1,(e.1.2.2.1,(e.1.2.2.2.1,(e.1.2.2.2.2.1,(e.1.2.2.2.2.2.1,())))))),(true,())))<|bF (nP e.1.1 e.1.2.1 e.1.2.2.1 e.1.2.2.2.1 e.1.2.2.2.2.1 e.1.2.2.2.2.2.1 [35]) fun d=>cond d.2.1 (cond (iq (bZ .i64 d.1.2.2.2.1 1) (bG d.1.2.1)) (cond (gm d.1.2.1 (bZ .i64 d.1.2.2.2.1 1)) (a6 ((d.1.1,(d.1.2.1,(d.1.2.2.1,(d.1.2.2.2.1,(d.1.2.2.2.2.1,(d.1.2.2.2.2.2.1,())))))),((bT (bY d.1.2.1 (bZ .i64 d.1.2.2.2.1 1)) 60),()))) a7)<|some ((d.1.1,(d.1.2.1,(d.1.2.2.1,(d.1.2.2.2.1,(d.1.2.2.2.2.1,(d.1.2.2.2.2.2.1,())))))),(false,())))<|some ((d.1.1,(d.1.2.1,(d.1.2.2.1,(d.1.2.2.2.1,(d.1.2.2.2.2.1,(d.1.2.2.2.2.2.1,())))))),(false,()))
def ahd:fF:=⟨82,I4,[],[.bool],fun x y=>VX x.1 x.2.1 x.2.2.1 x.2.2.2.1 x.2.2.2.2.1 x.2.2.2.2.2.1⟩
theorem Nu:dI prog 117 ahd:=qB [] aN (sF kG aN)
def RJ (e:List fJ) (f:bW) (g:List fE) (h i j:Int):Option (taF×uO):=bF (nP e f g h i j [123,40,105,119,114,99]) fun d=>cond d.2.1 (a6 ((d.1.1,(d.1.2.1,(d.1.2.2.1,(d.1.2.2.2.1,(d.1.2.2.2.2.1,(d.1.2.2.2.2.2.1,())))))),((iq d.1.2.2.2.2.2.1 200),())))<|some ((d.1.1,(d.1.2.1,(d.1.2.2.1,(d.1.2.2.2.1,(d.1.2.2.2.2.1,(d.1.2.2.2.2.2.1,())))))),(false,()))
def auw:fF:=⟨82,I4,[],[.bool],fun x y=>RJ x.1 x.2.1 x.2.2.1 x.2.2.2.1 x.2.2.2.2.1 x.2.2.2.2.2.1⟩
theorem Xb:dI prog 118 auw:=qB [] aN (sF kG aN)
def aq3 (g:List fJ) (h:bW) (i:List fE) (j l m:Int):Option (taF×uO):=bF (nP g h i j l m [120]) fun d=>cond d.2.1 (a6 ((d.1.1,(d.1.2.1,(d.1.2.2.1,(d.1.2.2.2.1,(d.1.2.2.2.2.1,(d.1.2.2.2.2.2.1,())))))),(true,())))<|bF (VX d.1.1 d.1.2.1 d.1.2.2.1 d.1.2.2.2.1 d.1.2.2.2.2.1 d.1.2.2.2.2.2.1) fun e=>cond e.2.1 (a6 ((e.1.1,(e.1.2.1,(e.1.2.2.1,(e.1.2.2.2.1,(e.1.2.2.2.2.1,(e.1.2.2.2.2.2.1,())))))),(true,())))<|bF (RJ e.1.1 e.1.2.1 e.1.2.2.1 e.1.2.2.2.1 e.1.2.2.2.2.1 e.1.2.2.2.2.2.1) fun f=>a6 ((f.1.1,(f.1.2.1,(f.1.2.2.1,(f.1.2.2.2.1,(f.1.2.2.2.2.1,(f.1.2.2.2.2.2.1,())))))),(f.2.1,()))
def aAt:fF:=⟨82,I4,[],[.bool],fun x y=>aq3 x.1 x.2.1 x.2.2.1 x.2.2.2.1 x.2.2.2.2.1 x.2.2.2.2.2.1⟩
theorem aex:dI prog 74 aAt:=qB [] aN (sF kG (sF Nu (sF Xb aN)))
def OY (f:List fJ) (g:bW) (h:List fE) (i j l:Int):Option (taF×uO):=bF (nP f g h i j l [33]) fun d=>cond d.2.1 (a6 ((d.1.1,(d.1.2.1,(d.1.2.2.1,(d.1.2.2.2.1,(d.1.2.2.2.2.1,(d.1.2.2.2.2.2.1,())))))),(true,())))<|bF (aq3 d.1.1 d.1.2.1 d.1.2.2.1 d.1.2.2.2.1 d.1.2.2.2.2.1 d.1.2.2.2.2.2.1) fun e=>a6 ((e.1.1,(e.1.2.1,(e.1.2.2.1,(e.1.2.2.2.1,(e.1.2.2.2.2.1,(e.1.2.2.2.2.2.1,())))))),(e.2.1,()))
def Xt:fF:=⟨82,I4,[],[.bool],fun x y=>OY x.1 x.2.1 x.2.2.1 x.2.2.2.1 x.2.2.2.2.1 x.2.2.2.2.2.1⟩
theorem EQ:dI prog 35 Xt:=qB [] aN (sF kG (sF aex aN))
end
section
open Option renaming some → a6, none → a7
open Tryz
open Go.RowKit
def Mc (d:List fE) (e f:Int):=ik d (dw e) ((dD d (0,(0,(0,(0,())))) (dw e)).1,((dD d (0,(0,(0,(0,())))) (dw e)).2.1,(f,((dD d (0,(0,(0,(0,())))) (dw e)).2.2.2.1,()))))
def pz (g:List fJ) (h:bW) (e:List fE) (f d i j:Int):Option Dv:=cond (gm e d) (cond (ni (dw d) e) (cond (gm (Mc e d f) d) (cond (ni (dw d) (Mc e d f)) (bF (aq2 (dD (Mc e d f) (0,(0,(0,(0,())))) (dw d)).1) fun l=>cond l.1 (a6 ((g,(h,((Mc e d f),(f,(j,((eF .i64 i 1),())))))),()))<|some ((g,(h,((Mc e d f),(f,(j,(i,())))))),())) a7) a7) a7) a7
def OU:fF:=⟨82,I4,[di],[],fun x y=>pz x.1 x.2.1 x.2.2.1 x.2.2.2.1 x.2.2.2.2.1 x.2.2.2.2.2.1 y.1⟩
theorem pY:dI prog 38 OU:=qB [] (sE aew aN)
noncomputable def b76:Code:=(f76.body).getD .skip
noncomputable def azm:Code:=cA (cA (cA (cB (cB (b76)))))
def ajM:SQ:=⟨us eo 13,dc,bL⟩
def agy:SQ:=⟨us [.u,.u,.u,bR] 13,dc,bL⟩
def agS:SQ:=⟨us dx 14,dc,[]⟩
def abx {e:Type} (g h:Int->(List fJ)->bW->Int->Int->Int->(List fE)->Option e) (q:Int->Option e) (f:Int) (i:List fJ) (j:bW) (l m o:Int) (p:List fE):Option e:=bF (nP i j p l m o [110]) fun d=>cond d.2.1 (g (bZ .i64 f 1) d.1.1 d.1.2.1 (bZ .i64 d.1.2.2.2.1 1) d.1.2.2.2.2.1 d.1.2.2.2.2.2.1 d.1.2.2.1)<|h f d.1.1 d.1.2.1 d.1.2.2.2.1 d.1.2.2.2.2.1 d.1.2.2.2.2.2.1 d.1.2.2.1
def SS:Nat->Int->(List fJ)->bW->Int->Int->Int->(List fE)->Option (agy.den⊕agS.den)
 |0,_,_,_,_,_,_,_=>a7
 |n+1,d,e,f,g,h,i,j=>abx (SS n) (fun l m o p q s u=>a6 (.inl ((l,()),((),()),((m,o,p,q,s,()),u,())))) (fun v=>a6 (.inr ((v,()),((),()),()))) d e f g h i j
def aCQ (n:Nat) (v:ajM.den):=bo (SS n) v
noncomputable def asH:dA:=fK YG ajM agy agS (.exit 0) (aCQ bJ) 6
def rP (e:List fJ) (f:bW) (g:List fE) (h i j:Int):Option (taF×lW):=bF (SS bJ 0 e f h i j g) fun l=>dL l (fun d=>a6 ((d.2.2.1.1,(d.2.2.1.2.1,(d.2.2.2.1,(d.2.2.1.2.2.1,(d.2.2.1.2.2.2.1,(d.2.2.1.2.2.2.2.1,())))))),(d.1.1,()))) (fun m=>a7)
def OV:fF:=⟨82,I4,[],[di],fun x y=>rP x.1 x.2.1 x.2.2.1 x.2.2.2.1 x.2.2.2.2.1 x.2.2.2.2.2.1⟩
noncomputable def aqj:Env:=gQ prog tt [] [(76,2,YG)] [(76,2,asH)] [] [(34,H6)]
def atU {d:Type} (a:ajM.den->Option d) (b:agy.den->Option d) (c:agS.den->Option d) (v:ajM.den):Option d:=bo (abx (bm a) (bm b) (fun e=>c ((e,()),((),()),()))) v
theorem aDj:dQ aqj 76 azm asH:=mO (atU) (h2:=by intros;simp only[atU,bm,bo,abx,cu,cO,bD,bV,cZ])
theorem aHm:dO aqj 76 b76:=pI [azm] (aD (fM (aDj)) aN)
theorem aqk:eP aqj:=eB aN [76] (aD ⟨f76,b76,by kernel_rfl,by kernel_rfl,aHm⟩ aN) (hx:=(aD kG aN))
theorem xP:dI prog 76 OV:=sB aqk
def uA (f:List fJ) (g:bW) (h:List fE) (i j l:Int):Option Dv:=bF (Dz f g h i j l 18) fun d=>bF (pz d.1.1 d.1.2.1 d.1.2.2.1 d.1.2.2.2.1 d.1.2.2.2.2.1 d.1.2.2.2.2.2.1 d.2.1) fun e=>a6 ((e.1.1,(e.1.2.1,(e.1.2.2.1,(e.1.2.2.2.1,(e.1.2.2.2.2.1,(e.1.2.2.2.2.2.1,())))))),())
def Uz:fF:=⟨82,I4,[],[],fun x y=>uA x.1 x.2.1 x.2.2.1 x.2.2.2.1 x.2.2.2.2.1 x.2.2.2.2.2.1⟩
theorem wW:dI prog 120 Uz:=qB [] aN (sF pX (sF pY aN))
def L9 (f:List fJ) (g:bW) (h:List fE) (i j l m:Int):Option Dv:=bF (Dz f g h i j l m) fun d=>bF (pz d.1.1 d.1.2.1 d.1.2.2.1 (bZ .i64 d.1.2.2.2.1 1) d.1.2.2.2.2.1 d.1.2.2.2.2.2.1 d.2.1) fun e=>a6 ((e.1.1,(e.1.2.1,(e.1.2.2.1,(e.1.2.2.2.1,(e.1.2.2.2.2.1,(e.1.2.2.2.2.2.1,())))))),())
def ale:fF:=⟨82,I4,[di],[],fun x y=>L9 x.1 x.2.1 x.2.2.1 x.2.2.2.1 x.2.2.2.2.1 x.2.2.2.2.2.1 y.1⟩
theorem Lt:dI prog 37 ale:=qB [] aN (sF pX (sF pY aN))
def mW (f:List fJ) (g:bW) (h:List fE) (i j l:Int) (m:bW):Option Dv:=bF (nP f g h i j l m) fun d=>cond d.2.1 (a6 ((d.1.1,(d.1.2.1,(d.1.2.2.1,((bZ .i64 d.1.2.2.2.1 1),(d.1.2.2.2.2.1,(d.1.2.2.2.2.2.1,())))))),()))<|bF (uA d.1.1 d.1.2.1 d.1.2.2.1 d.1.2.2.2.1 d.1.2.2.2.2.1 d.1.2.2.2.2.2.1) fun e=>a6 ((e.1.1,(e.1.2.1,(e.1.2.2.1,(e.1.2.2.2.1,(e.1.2.2.2.2.1,(e.1.2.2.2.2.2.1,())))))),())
def UB:fF:=⟨82,I4,[.str],[],fun x y=>mW x.1 x.2.1 x.2.2.1 x.2.2.2.1 x.2.2.2.2.1 x.2.2.2.2.2.1 y.1⟩
theorem Gx:dI prog 216 UB:=qB [] aN (sF kG (sF wW aN))
def xx (e:List fJ) (g:bW) (h:List fE) (f i j:Int):Option Dv:=cond (iq f (bG e)) (cond (gm e f) (cond (bT (eX e (0,([],(0,(0,())))) f).1 6) (bF (L9 e g h f i j 7) fun d=>a6 ((d.1.1,(d.1.2.1,(d.1.2.2.1,(d.1.2.2.2.1,(d.1.2.2.2.2.1,(d.1.2.2.2.2.2.1,())))))),()))<|bF (uA e g h f i j) fun d=>a6 ((d.1.1,(d.1.2.1,(d.1.2.2.1,(d.1.2.2.2.1,(d.1.2.2.2.2.1,(d.1.2.2.2.2.2.1,())))))),())) a7)<|bF (uA e g h f i j) fun d=>a6 ((d.1.1,(d.1.2.1,(d.1.2.2.1,(d.1.2.2.2.1,(d.1.2.2.2.2.1,(d.1.2.2.2.2.2.1,())))))),())
def au1:fF:=⟨82,I4,[],[],fun x y=>xx x.1 x.2.1 x.2.2.1 x.2.2.2.1 x.2.2.2.2.1 x.2.2.2.2.2.1⟩
theorem Xq:dI prog 250 au1:=qB [] aN (sF Lt (sF wW aN))
def acL (h:List fJ) (i:bW) (j:List fE) (l m o:Int):Option Dv:=bF (Dz h i j l m o 8) fun g=>bF (nP g.1.1 g.1.2.1 g.1.2.2.1 g.1.2.2.2.1 g.1.2.2.2.2.1 g.1.2.2.2.2.2.1 [35]) fun d=>cond d.2.1 (bF (xx d.1.1 d.1.2.1 d.1.2.2.1 (bZ .i64 (bZ .i64 d.1.2.2.2.1 1) 1) d.1.2.2.2.2.1 d.1.2.2.2.2.2.1) fun e=>bF (pz e.1.1 e.1.2.1 e.1.2.2.1 e.1.2.2.2.1 e.1.2.2.2.2.1 e.1.2.2.2.2.2.1 g.2.1) fun f=>a6 ((f.1.1,(f.1.2.1,(f.1.2.2.1,(f.1.2.2.2.1,(f.1.2.2.2.2.1,(f.1.2.2.2.2.2.1,())))))),()))<|bF (xx d.1.1 d.1.2.1 d.1.2.2.1 (bZ .i64 d.1.2.2.2.1 1) d.1.2.2.2.2.1 d.1.2.2.2.2.2.1) fun e=>bF (pz e.1.1 e.1.2.1 e.1.2.2.1 e.1.2.2.2.1 e.1.2.2.2.2.1 e.1.2.2.2.2.2.1 g.2.1) fun f=>a6 ((f.1.1,(f.1.2.1,(f.1.2.2.1,(f.1.2.2.2.1,(f.1.2.2.2.2.1,(f.1.2.2.2.2.2.1,())))))),())
def ahj:fF:=⟨82,I4,[],[],fun x y=>acL x.1 x.2.1 x.2.2.1 x.2.2.2.1 x.2.2.2.2.1 x.2.2.2.2.2.1⟩
theorem Xm:dI prog 217 ahj:=qB [] aN (sF pX (sF kG (sF pY (sF Xq aN))))
noncomputable def aF3:Code:=(Tryz.f218.body).getD .skip
noncomputable def api:Code:=cA (cA (cB (cA (cB (aF3)))))
def arI:eG:=⟨[0,3,100002],[],[],[],[2],[]⟩
def Zt:SP:=⟨us [bS,.u,.u,bR] 17,[]⟩
def aab:SP:=⟨us [] 21,[]⟩
def aaL:SP:=⟨us dx 18,[]⟩
def Qs {f:Type} (g:bW->Int->Option f) (h:Option f) (i:Int->Option f) (e:bW) (d:Int):Option f:=cond (iq d (bG e)) (cond (gm e d) (cond (bT (bY e d) 61) (cond (eU (bG e) 0 d) (bF (RS (sub e 0 d)) fun j=>cond j.1 (i d)<|g e (bZ .i64 d 1)) a7)<|g e (bZ .i64 d 1)) a7) h
def Cc:Nat->bW->Int->Option (aab.den⊕aaL.den)
 |0,_,_=>a7
 |n+1,d,e=>Qs (Cc n) (a6 (.inl ((),()))) (fun f=>a6 (.inr ((f,()),()))) d e
def axo (n:Nat) (v:Zt.den):=Cc n v.1.1 v.1.2.1
noncomputable def ai9:dA:=fH arI Zt aab aaL (.exit 0) (axo bJ) 6
def V7 (d:bW):Option lW:=bF (Cc bJ d 1) fun e=>dL e (fun g=>a6 (0,())) (fun f=>a6 (f.1.1,()))
def auV:Sum:=⟨[.str],Vz,fun x=>V7 x.1⟩
noncomputable def afg:Env:=iU prog tt 218 [(215,UA)] [(2,arI)] [(2,ai9)]
def akw {d:Type} (a:Zt.den->Option d) (b:aab.den->Option d) (c:aaL.den->Option d) (v:Zt.den):Option d:=Qs (aL a) (b ((),())) (aE c) v.1.1 v.1.2.1
theorem ayb:dQ afg 218 api ai9:=vS (akw) (h2:=by intros;simp only[akw,aL,aE,Qs,cu,cO,bD,bV,cZ])
theorem aCl:dO afg 218 aF3:=pI [api] (aD (fM (ayb)) aN)
theorem amb:eP afg:=eA Tryz.f218 (aD Gw aN) (aCl)
theorem an9:dK prog 218 auV:=sA amb
structure iR where
 q36:(List fJ)->bW->(List fE)->Int->Int->Int->Option Dv
 q75:(List fJ)->bW->(List fE)->Int->Int->Int->Option Dv
 q119:(List fJ)->bW->(List fE)->Int->Int->Int->Option Dv
 q163:(List fJ)->bW->(List fE)->Int->Int->Int->Option Dv
 q246:(List fJ)->bW->(List fE)->Int->Int->Int->Option Dv
 q247:(List fJ)->bW->(List fE)->Int->Int->Int->Option Dv
 q214:(List fJ)->bW->(List fE)->Int->Int->Int->Option Dv
 q248:(List fJ)->bW->(List fE)->Int->Int->Int->Option Dv
 q249:(List fJ)->bW->(List fE)->Int->Int->Int->Option Dv
def ahl (q:iR):fF:=⟨82,I4,[],[],fun x y=>q.q36 x.1 x.2.1 x.2.2.1 x.2.2.2.1 x.2.2.2.2.1 x.2.2.2.2.2.1⟩
def avg (q:iR):fF:=⟨82,I4,[],[],fun x y=>q.q75 x.1 x.2.1 x.2.2.1 x.2.2.2.1 x.2.2.2.2.1 x.2.2.2.2.2.1⟩
def akY (q:iR):fF:=⟨82,I4,[],[],fun x y=>q.q119 x.1 x.2.1 x.2.2.1 x.2.2.2.1 x.2.2.2.2.1 x.2.2.2.2.2.1⟩
def ak0 (q:iR):fF:=⟨82,I4,[],[],fun x y=>q.q163 x.1 x.2.1 x.2.2.1 x.2.2.2.1 x.2.2.2.2.1 x.2.2.2.2.2.1⟩
def abG (q:iR):fF:=⟨82,I4,[],[],fun x y=>q.q246 x.1 x.2.1 x.2.2.1 x.2.2.2.1 x.2.2.2.2.1 x.2.2.2.2.2.1⟩
def abH (q:iR):fF:=⟨82,I4,[],[],fun x y=>q.q247 x.1 x.2.1 x.2.2.1 x.2.2.2.1 x.2.2.2.2.1 x.2.2.2.2.2.1⟩
def ak2 (q:iR):fF:=⟨82,I4,[],[],fun x y=>q.q214 x.1 x.2.1 x.2.2.1 x.2.2.2.1 x.2.2.2.2.1 x.2.2.2.2.2.1⟩
def ak4 (q:iR):fF:=⟨82,I4,[],[],fun x y=>q.q248 x.1 x.2.1 x.2.2.1 x.2.2.2.1 x.2.2.2.2.1 x.2.2.2.2.2.1⟩
def ak5 (q:iR):fF:=⟨82,I4,[],[],fun x y=>q.q249 x.1 x.2.1 x.2.2.1 x.2.2.2.1 x.2.2.2.2.1 x.2.2.2.2.2.1⟩
noncomputable def b36:Code:=(f36.body).getD .skip
noncomputable def azc:Code:=cA (cA (cA (cB (cB (b36)))))
def aiF:eG:=⟨[0,2,100002],[],[0,2],[],[],[]⟩
def ajC:SQ:=⟨us eJ 27,dc,bL⟩
def aan:SQ:=⟨us eJ 27,dc,bL⟩
def aaX:SQ:=⟨us [] 30,dc,[]⟩
def Np (q:iR) {i:Type} (l j:Int->(List fJ)->bW->Int->Int->Int->(List fE)->Option i) (x:Option i) (h:Int) (m:List fJ) (o:bW) (p s u:Int) (v:List fE):Option i:=bF (nP m o v p s u [59,38]) fun f=>cond f.2.1 (bF (rP f.1.1 f.1.2.1 f.1.2.2.1 (bZ .i64 f.1.2.2.2.1 1) f.1.2.2.2.2.1 f.1.2.2.2.2.2.1) fun e=>bF (OY e.1.1 e.1.2.1 e.1.2.2.1 e.1.2.2.2.1 e.1.2.2.2.2.1 e.1.2.2.2.2.2.1) fun d=>cond (!d.2.1) (j h d.1.1 d.1.2.1 d.1.2.2.2.1 d.1.2.2.2.2.1 d.1.2.2.2.2.2.1 d.1.2.2.1)<|bF (q.q75 d.1.1 d.1.2.1 d.1.2.2.1 d.1.2.2.2.1 d.1.2.2.2.2.1 d.1.2.2.2.2.2.1) fun g=>l h g.1.1 g.1.2.1 g.1.2.2.2.1 g.1.2.2.2.2.1 g.1.2.2.2.2.2.1 g.1.2.2.1)<|bF (rP f.1.1 f.1.2.1 f.1.2.2.1 f.1.2.2.2.1 f.1.2.2.2.2.1 f.1.2.2.2.2.2.1) fun e=>cond (bT e.2.1 0) (j h e.1.1 e.1.2.1 e.1.2.2.2.1 e.1.2.2.2.2.1 e.1.2.2.2.2.2.1 e.1.2.2.1)<|bF (OY e.1.1 e.1.2.1 e.1.2.2.1 e.1.2.2.2.1 e.1.2.2.2.2.1 e.1.2.2.2.2.2.1) fun d=>cond (!d.2.1) (j h d.1.1 d.1.2.1 d.1.2.2.2.1 d.1.2.2.2.2.1 d.1.2.2.2.2.2.1 d.1.2.2.1)<|bF (q.q75 d.1.1 d.1.2.1 d.1.2.2.1 d.1.2.2.2.1 d.1.2.2.2.2.1 d.1.2.2.2.2.2.1) fun g=>l h g.1.1 g.1.2.1 g.1.2.2.2.1 g.1.2.2.2.2.1 g.1.2.2.2.2.2.1 g.1.2.2.1
def zx (q:iR):Nat->Int->(List fJ)->bW->Int->Int->Int->(List fE)->Option (aan.den⊕aaX.den)
 |0,_,_,_,_,_,_,_=>a7
 |n+1,d,e,f,g,h,i,j=>Np q (zx q n) (fun l m o p s u v=>a6 (.inl ((l,()),((),()),((m,o,p,s,u,()),v,())))) (a6 (.inr ((),((),()),()))) d e f g h i j
def aCG (q:iR) (n:Nat) (v:ajC.den):=bo (zx q n) v
noncomputable def asx (q:iR):dA:=fK aiF ajC aan aaX (.exit 0) (aCG q bJ) 6
def aBz (q:iR) (h:List fJ) (i:bW) (j:List fE) (l m o:Int):Option Dv:=bF (Dz h i j l m o 2) fun d=>bF (q.q75 d.1.1 d.1.2.1 d.1.2.2.1 d.1.2.2.2.1 d.1.2.2.2.2.1 d.1.2.2.2.2.2.1) fun f=>bF (zx q bJ d.2.1 f.1.1 f.1.2.1 f.1.2.2.2.1 f.1.2.2.2.2.1 f.1.2.2.2.2.2.1 f.1.2.2.1) fun p=>dL p (fun e=>bF (pz e.2.2.1.1 e.2.2.1.2.1 e.2.2.2.1 e.2.2.1.2.2.1 e.2.2.1.2.2.2.1 e.2.2.1.2.2.2.2.1 e.1.1) fun g=>a6 ((g.1.1,(g.1.2.1,(g.1.2.2.1,(g.1.2.2.2.1,(g.1.2.2.2.2.1,(g.1.2.2.2.2.2.1,())))))),())) (fun s=>a7)
noncomputable def ap0 (q:iR):Env:=gQ prog tt [] [(36,2,aiF)] [(36,2,asx q)] [] [(33,OT),(34,H6),(35,Xt),(38,OU),(75,avg q),(76,OV)]
def atI (q:iR) {d:Type} (a:ajC.den->Option d) (b:aan.den->Option d) (c:aaX.den->Option d) (v:ajC.den):Option d:=bo (Np q (bm a) (bm b) (c ((),((),()),()))) v
theorem aC9 (q:iR):dQ (ap0 q) 36 azc (asx q):=mO (atI q) (h2:=by intros;simp only[atI,bm,bo,Np,cu,cO,bD,bV,cZ])
theorem aHc (q:iR):dO (ap0 q) 36 b36:=pI [azc] (aD (fM (aC9 q)) aN)
abbrev H36 (q:iR):Prop:=dI prog 36 (ahl q)/\dI prog 75 (avg q)/\dI prog 119 (akY q)/\dI prog 163 (ak0 q)/\dI prog 246 (abG q)/\dI prog 247 (abH q)/\dI prog 214 (ak2 q)/\dI prog 248 (ak4 q)/\dI prog 249 (ak5 q)
theorem ap1 (q:iR) (H:H36 q):eP (ap0 q):=eB aN [36] (aD ⟨f36,b36,by kernel_rfl,by kernel_rfl,aHc q⟩ aN) (hx:=(aD pX (aD kG (aD EQ (aD pY (aD H.2.1 (aD xP aN)))))))
noncomputable def b75:Code:=(f75.body).getD .skip
noncomputable def azl:Code:=cA (cA (cA (cB (cB (b75)))))
def ajL:SQ:=⟨us eJ 25,dc,bL⟩
def agx:SQ:=⟨us eJ 25,dc,bL⟩
def agR:SQ:=⟨us [] 28,dc,[]⟩
def abw (q:iR) {h:Type} (j l:Int->(List fJ)->bW->Int->Int->Int->(List fE)->Option h) (x:Option h) (i:Int) (m:List fJ) (o:bW) (p s u:Int) (v:List fE):Option h:=bF (nP m o v p s u [97,111]) fun d=>cond d.2.1 (bF (rP d.1.1 d.1.2.1 d.1.2.2.1 (bZ .i64 d.1.2.2.2.1 1) d.1.2.2.2.2.1 d.1.2.2.2.2.2.1) fun g=>bF (OY g.1.1 g.1.2.1 g.1.2.2.1 g.1.2.2.2.1 g.1.2.2.2.2.1 g.1.2.2.2.2.2.1) fun e=>cond e.2.1 (bF (q.q119 e.1.1 e.1.2.1 e.1.2.2.1 e.1.2.2.2.1 e.1.2.2.2.2.1 e.1.2.2.2.2.2.1) fun f=>j i f.1.1 f.1.2.1 f.1.2.2.2.1 f.1.2.2.2.2.1 f.1.2.2.2.2.2.1 f.1.2.2.1)<|bF (uA e.1.1 e.1.2.1 e.1.2.2.1 e.1.2.2.2.1 e.1.2.2.2.2.1 e.1.2.2.2.2.2.1) fun f=>j i f.1.1 f.1.2.1 f.1.2.2.2.1 f.1.2.2.2.2.1 f.1.2.2.2.2.2.1 f.1.2.2.1)<|l i d.1.1 d.1.2.1 d.1.2.2.2.1 d.1.2.2.2.2.1 d.1.2.2.2.2.2.1 d.1.2.2.1
def SN (q:iR):Nat->Int->(List fJ)->bW->Int->Int->Int->(List fE)->Option (agx.den⊕agR.den)
 |0,_,_,_,_,_,_,_=>a7
 |n+1,d,e,f,g,h,i,j=>abw q (SN q n) (fun l m o p s u v=>a6 (.inl ((l,()),((),()),((m,o,p,s,u,()),v,())))) (a6 (.inr ((),((),()),()))) d e f g h i j
def aCP (q:iR) (n:Nat) (v:ajL.den):=bo (SN q n) v
noncomputable def asG (q:iR):dA:=fK aiF ajL agx agR (.exit 0) (aCP q bJ) 6
def aBA (q:iR) (h:List fJ) (i:bW) (j:List fE) (l m o:Int):Option Dv:=bF (Dz h i j l m o 3) fun d=>bF (q.q119 d.1.1 d.1.2.1 d.1.2.2.1 d.1.2.2.2.1 d.1.2.2.2.2.1 d.1.2.2.2.2.2.1) fun f=>bF (SN q bJ d.2.1 f.1.1 f.1.2.1 f.1.2.2.2.1 f.1.2.2.2.2.1 f.1.2.2.2.2.2.1 f.1.2.2.1) fun p=>dL p (fun e=>bF (pz e.2.2.1.1 e.2.2.1.2.1 e.2.2.2.1 e.2.2.1.2.2.1 e.2.2.1.2.2.2.1 e.2.2.1.2.2.2.2.1 e.1.1) fun g=>a6 ((g.1.1,(g.1.2.1,(g.1.2.2.1,(g.1.2.2.2.1,(g.1.2.2.2.2.1,(g.1.2.2.2.2.2.1,())))))),())) (fun s=>a7)
noncomputable def aqh (q:iR):Env:=gQ prog tt [] [(75,2,aiF)] [(75,2,asG q)] [] [(33,OT),(34,H6),(35,Xt),(38,OU),(76,OV),(119,akY q),(120,Uz)]
def atT (q:iR) {d:Type} (a:ajL.den->Option d) (b:agx.den->Option d) (c:agR.den->Option d) (v:ajL.den):Option d:=bo (abw q (bm a) (bm b) (c ((),((),()),()))) v
theorem aDi (q:iR):dQ (aqh q) 75 azl (asG q):=mO (atT q) (h2:=by intros;simp only[atT,bm,bo,abw,cu,cO,bD,bV,cZ])
theorem aHl (q:iR):dO (aqh q) 75 b75:=pI [azl] (aD (fM (aDi q)) aN)
theorem aqi (q:iR) (H:H36 q):eP (aqh q):=eB aN [75] (aD ⟨f75,b75,by kernel_rfl,by kernel_rfl,aHl q⟩ aN) (hx:=(aD pX (aD kG (aD EQ (aD pY (aD xP (aD H.2.2.1 (aD wW aN))))))))
noncomputable def aAX:Code:=(f119.body).getD .skip
noncomputable def ao1:Code:=cA (cA (cA (cB (cB (cB (aAX))))))
def aru:eG:=⟨[0,2,100004],[],[0,2],[],[],[]⟩
def Zb:SQ:=⟨us eJ 31,dc,bL⟩
def ZO:SQ:=⟨us eJ 31,dc,bL⟩
def aav:SQ:=⟨us [] 34,dc,[]⟩
def Qc (q:iR) {g:Type} (i j:Int->(List fJ)->bW->Int->Int->Int->(List fE)->Option g) (v:Option g) (h:Int) (l:List fJ) (m:bW) (o p s:Int) (u:List fE):Option g:=bF (nP l m u o p s [124]) fun d=>cond d.2.1 (bF (rP d.1.1 d.1.2.1 d.1.2.2.1 (bZ .i64 d.1.2.2.2.1 1) d.1.2.2.2.2.1 d.1.2.2.2.2.2.1) fun e=>bF (q.q163 e.1.1 e.1.2.1 e.1.2.2.1 e.1.2.2.2.1 e.1.2.2.2.2.1 e.1.2.2.2.2.2.1) fun f=>i h f.1.1 f.1.2.1 f.1.2.2.2.1 f.1.2.2.2.2.1 f.1.2.2.2.2.2.1 f.1.2.2.1)<|j h d.1.1 d.1.2.1 d.1.2.2.2.1 d.1.2.2.2.2.1 d.1.2.2.2.2.2.1 d.1.2.2.1
def BX (q:iR):Nat->Int->(List fJ)->bW->Int->Int->Int->(List fE)->Option (ZO.den⊕aav.den)
 |0,_,_,_,_,_,_,_=>a7
 |n+1,d,e,f,g,h,i,j=>Qc q (BX q n) (fun l m o p s u v=>a6 (.inl ((l,()),((),()),((m,o,p,s,u,()),v,())))) (a6 (.inr ((),((),()),()))) d e f g h i j
def aw7 (q:iR) (n:Nat) (v:Zb.den):=bo (BX q n) v
noncomputable def aiS (q:iR):dA:=fK aru Zb ZO aav (.exit 0) (aw7 q bJ) 6
def aqB (q:iR) (j:List fJ) (l:bW) (m:List fE) (o p s:Int):Option Dv:=bF (Dz j l m o p s 4) fun h=>bF (nP h.1.1 h.1.2.1 h.1.2.2.1 h.1.2.2.2.1 h.1.2.2.2.2.1 h.1.2.2.2.2.2.1 [33]) fun e=>cond e.2.1 (bF (q.q163 e.1.1 e.1.2.1 e.1.2.2.1 (bZ .i64 e.1.2.2.2.1 1) e.1.2.2.2.2.1 e.1.2.2.2.2.2.1) fun f=>bF (BX q bJ h.2.1 f.1.1 f.1.2.1 f.1.2.2.2.1 f.1.2.2.2.2.1 f.1.2.2.2.2.2.1 f.1.2.2.1) fun i=>dL i (fun d=>bF (pz d.2.2.1.1 d.2.2.1.2.1 d.2.2.2.1 d.2.2.1.2.2.1 d.2.2.1.2.2.2.1 d.2.2.1.2.2.2.2.1 d.1.1) fun g=>a6 ((g.1.1,(g.1.2.1,(g.1.2.2.1,(g.1.2.2.2.1,(g.1.2.2.2.2.1,(g.1.2.2.2.2.2.1,())))))),())) (fun u=>a7))<|bF (q.q163 e.1.1 e.1.2.1 e.1.2.2.1 e.1.2.2.2.1 e.1.2.2.2.2.1 e.1.2.2.2.2.2.1) fun f=>bF (BX q bJ h.2.1 f.1.1 f.1.2.1 f.1.2.2.2.1 f.1.2.2.2.2.1 f.1.2.2.2.2.2.1 f.1.2.2.1) fun i=>dL i (fun d=>bF (pz d.2.2.1.1 d.2.2.1.2.1 d.2.2.2.1 d.2.2.1.2.2.1 d.2.2.1.2.2.2.1 d.2.2.1.2.2.2.2.1 d.1.1) fun g=>a6 ((g.1.1,(g.1.2.1,(g.1.2.2.1,(g.1.2.2.2.1,(g.1.2.2.2.2.1,(g.1.2.2.2.2.2.1,())))))),())) (fun u=>a7)
noncomputable def ae2 (q:iR):Env:=gQ prog tt [] [(119,4,aru)] [(119,4,aiS q)] [] [(33,OT),(34,H6),(38,OU),(76,OV),(163,ak0 q)]
def akf (q:iR) {d:Type} (a:Zb.den->Option d) (b:ZO.den->Option d) (c:aav.den->Option d) (v:Zb.den):Option d:=bo (Qc q (bm a) (bm b) (c ((),((),()),()))) v
theorem axU (q:iR):dQ (ae2 q) 119 ao1 (aiS q):=mO (akf q) (h2:=by intros;simp only[akf,bm,bo,Qc,cu,cO,bD,bV,cZ])
theorem aB2 (q:iR):dO (ae2 q) 119 aAX:=pI [ao1] (aD (fM (axU q)) aN)
theorem alP (q:iR) (H:H36 q):eP (ae2 q):=eB aN [119] (aD ⟨f119,aAX,by kernel_rfl,by kernel_rfl,aB2 q⟩ aN) (hx:=(aD pX (aD kG (aD pY (aD xP (aD H.2.2.2.1 aN))))))
noncomputable def aeU:Code:=(f163.body).getD .skip
noncomputable def ahA:Code:=cA (cA (cA (cB (cB (cB (cB (cB (aeU))))))))
noncomputable def yx:Code:=cB (cB (cB (aeU)))
def aiz:eG:=⟨[0,3,4,100016],[],[0,3],[],[],[]⟩
def yH:eG:=⟨[0,900014],[],[],[],[],[]⟩
def Pz:SQ:=⟨us [ct,.u,.u,bR,bR] 139,dc,bL⟩
def TE:SQ:=⟨us eo 140,dc,bL⟩
def TP:SQ:=⟨us [] 144,dc,[]⟩
def KZ (q:iR) {i:Type} (j:Int->Int->(List fJ)->bW->Int->Int->Int->(List fE)->Option i) (l:Int->(List fJ)->bW->Int->Int->Int->(List fE)->Option i) (x:Option i) (g h:Int) (m:List fJ) (o:bW) (p s u:Int) (v:List fE):Option i:=bF (VX m o v p s u) fun d=>cond d.2.1 (bF (acL d.1.1 d.1.2.1 d.1.2.2.1 d.1.2.2.2.1 d.1.2.2.2.2.1 d.1.2.2.2.2.2.1) fun e=>j g h e.1.1 e.1.2.1 e.1.2.2.2.1 e.1.2.2.2.2.1 e.1.2.2.2.2.2.1 e.1.2.2.1)<|cond (iq d.1.2.2.2.1 (bG d.1.1)) (cond (gm d.1.1 d.1.2.2.2.1) (cond (bT (eX d.1.1 (0,([],(0,(0,())))) d.1.2.2.2.1).1 6) (cond (bT h 0) (cond (gm d.1.1 d.1.2.2.2.1) (bF (V7 (eX d.1.1 (0,([],(0,(0,())))) d.1.2.2.2.1).2.1) fun e=>cond (iq 0 e.1) (bF (L9 d.1.1 d.1.2.1 d.1.2.2.1 d.1.2.2.2.1 d.1.2.2.2.2.1 d.1.2.2.2.2.2.1 6) fun f=>j g h f.1.1 f.1.2.1 f.1.2.2.2.1 f.1.2.2.2.2.1 f.1.2.2.2.2.2.1 f.1.2.2.1)<|bF (L9 d.1.1 d.1.2.1 d.1.2.2.1 d.1.2.2.2.1 d.1.2.2.2.2.1 d.1.2.2.2.2.2.1 7) fun f=>j g (bZ .i64 h 1) f.1.1 f.1.2.1 f.1.2.2.2.1 f.1.2.2.2.2.1 f.1.2.2.2.2.2.1 f.1.2.2.1) a7)<|bF (L9 d.1.1 d.1.2.1 d.1.2.2.1 d.1.2.2.2.1 d.1.2.2.2.2.1 d.1.2.2.2.2.2.1 7) fun e=>j g (bZ .i64 h 1) e.1.1 e.1.2.1 e.1.2.2.2.1 e.1.2.2.2.2.1 e.1.2.2.2.2.2.1 e.1.2.2.1)<|l g d.1.1 d.1.2.1 d.1.2.2.2.1 d.1.2.2.2.2.1 d.1.2.2.2.2.2.1 d.1.2.2.1) a7)<|l g d.1.1 d.1.2.1 d.1.2.2.2.1 d.1.2.2.2.2.1 d.1.2.2.2.2.2.1 d.1.2.2.1
def AQ (q:iR):Nat->Int->Int->(List fJ)->bW->Int->Int->Int->(List fE)->Option (TE.den⊕TP.den)
 |0,_,_,_,_,_,_,_,_=>a7
 |n+1,d,e,f,g,h,i,j,l=>KZ q (AQ q n) (fun m o p s u v x=>a6 (.inl ((m,()),((),()),((o,p,s,u,v,()),x,())))) (a6 (.inr ((),((),()),()))) d e f g h i j l
def ase (q:iR) (n:Nat) (v:Pz.den):=AQ q n v.1.1 v.1.2.1 v.2.2.1.1 v.2.2.1.2.1 v.2.2.1.2.2.1 v.2.2.1.2.2.2.1 v.2.2.1.2.2.2.2.1 v.2.2.2.1
noncomputable def ads (q:iR):dA:=fK aiz Pz TE TP (.exit 0) (ase q bJ) 6
def Es:SQ:=⟨us bO 143,dc,bL⟩
def ww:SQ:=⟨us [] 144,dc,bL⟩
def wE:SQ:=⟨us [] 144,dc,[]⟩
def wI (q:iR) {g:Type} (h:(List fJ)->bW->Int->Int->Int->(List fE)->Option g) (i:Option g) (j:List fJ) (l:bW) (m o p:Int) (s:List fE):Option g:=bF (Dz j l s m o p 5) fun d=>bF (AQ q bJ d.2.1 0 d.1.1 d.1.2.1 d.1.2.2.2.1 d.1.2.2.2.2.1 d.1.2.2.2.2.2.1 d.1.2.2.1) fun u=>dL u (fun e=>bF (pz e.2.2.1.1 e.2.2.1.2.1 e.2.2.2.1 e.2.2.1.2.2.1 e.2.2.1.2.2.2.1 e.2.2.1.2.2.2.2.1 e.1.1) fun f=>h f.1.1 f.1.2.1 f.1.2.2.2.1 f.1.2.2.2.2.1 f.1.2.2.2.2.2.1 f.1.2.2.1) (fun v=>i)
def mM (q:iR) (d:List fJ) (e:bW) (f g h:Int) (i:List fE):Option (ww.den⊕wE.den):=wI q (fun j l m o p s=>a6 (.inl ((),((),()),((j,l,m,o,p,()),s,())))) (a6 (.inr ((),((),()),()))) d e f g h i
noncomputable def Ky (q:iR):dA:=fK yH Es ww wE (.exit 999999) (fun v=>mM q v.2.2.1.1 v.2.2.1.2.1 v.2.2.1.2.2.1 v.2.2.1.2.2.2.1 v.2.2.1.2.2.2.2.1 v.2.2.2.1) 12
def Fb (q:iR) (d:(taF×uO)):Option Dv:=bF (mM q d.1.1 d.1.2.1 d.1.2.2.2.1 d.1.2.2.2.2.1 d.1.2.2.2.2.2.1 d.1.2.2.1) fun f=>dL f (fun e=>a6 ((e.2.2.1.1,(e.2.2.1.2.1,(e.2.2.2.1,(e.2.2.1.2.2.1,(e.2.2.1.2.2.2.1,(e.2.2.1.2.2.2.2.1,())))))),())) (fun g=>a7)
def aqD (q:iR) (p:List fJ) (s:bW) (u:List fE) (v x y:Int):Option Dv:=bF (aq3 p s u v x y) fun f=>cond (!f.2.1) (bF (uA f.1.1 f.1.2.1 f.1.2.2.1 f.1.2.2.2.1 f.1.2.2.2.2.1 f.1.2.2.2.2.2.1) fun e=>a6 ((e.1.1,(e.1.2.1,(e.1.2.2.1,(e.1.2.2.2.1,(e.1.2.2.2.2.1,(e.1.2.2.2.2.2.1,())))))),()))<|bF (RJ f.1.1 f.1.2.1 f.1.2.2.1 f.1.2.2.2.1 f.1.2.2.2.2.1 f.1.2.2.2.2.2.1) fun e=>cond e.2.1 (bF (q.q214 e.1.1 e.1.2.1 e.1.2.2.1 e.1.2.2.2.1 e.1.2.2.2.2.1 e.1.2.2.2.2.2.1) fun d=>a6 ((d.1.1,(d.1.2.1,(d.1.2.2.1,(d.1.2.2.2.1,(d.1.2.2.2.2.1,(d.1.2.2.2.2.2.1,())))))),()))<|bF (nP e.1.1 e.1.2.1 e.1.2.2.1 e.1.2.2.2.1 e.1.2.2.2.2.1 e.1.2.2.2.2.2.1 [120]) fun d=>cond d.2.1 (cond (iq (bZ .i64 d.1.2.2.2.1 1) (bG d.1.2.1)) (cond (gm d.1.2.1 (bZ .i64 d.1.2.2.2.1 1)) (cond (bT (bY d.1.2.1 (bZ .i64 d.1.2.2.2.1 1)) 40) (cond (iq d.1.2.2.2.2.2.1 200) (cond (gm d.1.1 d.1.2.2.2.1) (bF (RS (eX d.1.1 (0,([],(0,(0,())))) d.1.2.2.2.1).2.1) fun z=>cond z.1 (bF (Dz d.1.1 d.1.2.1 d.1.2.2.1 d.1.2.2.2.1 d.1.2.2.2.2.1 d.1.2.2.2.2.2.1 16) fun j=>bF (L9 j.1.1 j.1.2.1 j.1.2.2.1 j.1.2.2.2.1 j.1.2.2.2.2.1 j.1.2.2.2.2.2.1 7) fun l=>bF (mW l.1.1 l.1.2.1 l.1.2.2.1 (bZ .i64 l.1.2.2.2.1 1) l.1.2.2.2.2.1 l.1.2.2.2.2.2.1 [41]) fun m=>bF (rP m.1.1 m.1.2.1 m.1.2.2.1 m.1.2.2.2.1 m.1.2.2.2.2.1 m.1.2.2.2.2.2.1) fun o=>bF (RJ o.1.1 o.1.2.1 o.1.2.2.1 o.1.2.2.2.1 o.1.2.2.2.2.1 o.1.2.2.2.2.2.1) fun g=>cond g.2.1 (bF (q.q214 g.1.1 g.1.2.1 g.1.2.2.1 g.1.2.2.2.1 g.1.2.2.2.2.1 g.1.2.2.2.2.2.1) fun h=>bF (pz h.1.1 h.1.2.1 h.1.2.2.1 h.1.2.2.2.1 h.1.2.2.2.2.1 h.1.2.2.2.2.2.1 j.2.1) fun i=>a6 ((i.1.1,(i.1.2.1,(i.1.2.2.1,(i.1.2.2.2.1,(i.1.2.2.2.2.1,(i.1.2.2.2.2.2.1,())))))),()))<|bF (uA g.1.1 g.1.2.1 g.1.2.2.1 g.1.2.2.2.1 g.1.2.2.2.2.1 g.1.2.2.2.2.2.1) fun h=>bF (pz h.1.1 h.1.2.1 h.1.2.2.1 h.1.2.2.2.1 h.1.2.2.2.2.1 h.1.2.2.2.2.2.1 j.2.1) fun i=>a6 ((i.1.1,(i.1.2.1,(i.1.2.2.1,(i.1.2.2.2.1,(i.1.2.2.2.2.1,(i.1.2.2.2.2.2.1,())))))),()))<|Fb q d) a7)<|Fb q d)<|Fb q d) a7)<|Fb q d)<|Fb q d
noncomputable def Ik (q:iR):Env:=gQ prog tt [(215,UA),(218,auV)] [(163,16,aiz),(163,800014,yH)] [(163,16,ads q),(163,800014,Ky q)] [] [(33,OT),(34,H6),(37,ale),(38,OU),(74,aAt),(76,OV),(117,ahd),(118,auw),(120,Uz),(214,ak2 q),(216,UB),(217,ahj)]
def ad7 (q:iR) {d:Type} (a:Pz.den->Option d) (b:TE.den->Option d) (c:TP.den->Option d) (v:Pz.den):Option d:=KZ q (fun e f g h i j l m=>a ((e,f,()),((),()),((g,h,i,j,l,()),m,()))) (bm b) (c ((),((),()),())) v.1.1 v.1.2.1 v.2.2.1.1 v.2.2.1.2.1 v.2.2.1.2.2.1 v.2.2.1.2.2.2.1 v.2.2.1.2.2.2.2.1 v.2.2.2.1
theorem asV (q:iR):dQ (Ik q) 163 ahA (ads q):=mO (ad7 q) (h2:=by intros;simp only[ad7,bm,KZ,cu,cO,bD,bV,cZ])
theorem Ux (q:iR) {R:Type} (d:Nat) (K:Ex->St->Option R) (e:List fJ) (f:bW) (g h i:Int) (j:List fE):
  iter (a6 yH) (DL (Be (Ik q) (d+12) 163 yx)) 1 (mX Es ((),((),()),((e,f,g,h,i,()),j,()))) K=
   wI q (fun l m e2 o p s=>K (.exit 999999) (mX ww ((),((),()),((l,m,e2,o,p,()),s,())))) (K .ret (mX wE ((),((),()),()))) e f g h i j:=by kernel_rfl
theorem YE (q:iR) {R:Type} (d:Nat) (K:Ex->St->Option R) (e:List fJ) (f:bW) (g h i:Int) (j:List fE):
  iter (a6 yH) (DL (Be (Ik q) (d+12) 163 yx)) 1 (mX Es ((),((),()),((e,f,g,h,i,()),j,()))) K=bF (mM q e f g h i j) fun o=>dL o (fun a=>K (.exit 999999) (mX ww a)) fun b=>K .ret (mX wE b):=by
  rw[Ux];simp only[mM,wI,cu,cO,bD,bV,cZ]
  try simp only[dL]
theorem YZ (q:iR):uX (Ik q) 163 yx (Ky q):=alG (by kernel_rfl) fun R d K v o h=>⟨1,(YE q d K (v.2.2.1.1) (v.2.2.1.2.1) (v.2.2.1.2.2.1) (v.2.2.1.2.2.2.1) (v.2.2.1.2.2.2.2.1) (v.2.2.2.1)).trans (congrArg (fun o=>bF o _) h)⟩
theorem aBR:jP aeU=[ahA]:=by kernel_rfl
theorem aBb (q:iR):MF (Ik q) 163 aeU=[yx]:=by kernel_rfl
theorem aB9 (q:iR):dO (Ik q) 163 aeU:=Ea aeU (fun x _ d=>absurd (show false=true from d) (by decide)) (by rw[aBR];exact(aD (fM (asV q)) aN)) (JP (by rw[aBb];exact(aD (fC (by kernel_rfl) (YZ q)) aN)))
theorem alY (q:iR) (H:H36 q):eP (Ik q):=eB (aD Gw (aD an9 aN)) [163] (aD ⟨f163,aeU,by kernel_rfl,by kernel_rfl,aB9 q⟩ aN) (hx:=(aD pX (aD kG (aD Lt (aD pY (aD aex (aD xP (aD Nu (aD Xb (aD wW (aD H.2.2.2.2.2.2.1 (aD Gx (aD Xm aN)))))))))))))
def aqF (q:iR) (g:List fJ) (h:bW) (i:List fE) (j l m:Int):Option Dv:=bF (rP g h i j l m) fun f=>bF (OY f.1.1 f.1.2.1 f.1.2.2.1 f.1.2.2.2.1 f.1.2.2.2.2.1 f.1.2.2.2.2.2.1) fun d=>cond d.2.1 (bF (q.q36 d.1.1 d.1.2.1 d.1.2.2.1 d.1.2.2.2.1 d.1.2.2.2.2.1 d.1.2.2.2.2.2.1) fun e=>a6 ((e.1.1,(e.1.2.1,(e.1.2.2.1,(e.1.2.2.2.1,(e.1.2.2.2.2.1,(e.1.2.2.2.2.2.1,())))))),()))<|bF (uA d.1.1 d.1.2.1 d.1.2.2.1 d.1.2.2.2.1 d.1.2.2.2.2.1 d.1.2.2.2.2.2.1) fun e=>a6 ((e.1.1,(e.1.2.1,(e.1.2.2.1,(e.1.2.2.2.1,(e.1.2.2.2.2.1,(e.1.2.2.2.2.2.1,())))))),())
noncomputable def aBj (q:iR):Env:=gQ prog tt [] [] [] [] [(35,Xt),(36,ahl q),(76,OV),(120,Uz)]
theorem amf (q:iR) (H:H36 q):eP (aBj q):=eB aN [] aN (hx:=(aD EQ (aD H.1 (aD xP (aD wW aN)))))
def aqG (q:iR) (g:List fJ) (h:bW) (i:List fE) (j l m:Int):Option Dv:=bF (mW g h i j l m [100]) fun d=>bF (q.q246 d.1.1 d.1.2.1 d.1.2.2.1 d.1.2.2.2.1 d.1.2.2.2.2.1 d.1.2.2.2.2.2.1) fun e=>bF (mW e.1.1 e.1.2.1 e.1.2.2.1 e.1.2.2.2.1 e.1.2.2.2.2.1 e.1.2.2.2.2.2.1 [103]) fun f=>a6 ((f.1.1,(f.1.2.1,(f.1.2.2.1,(f.1.2.2.2.1,(f.1.2.2.2.2.1,(f.1.2.2.2.2.2.1,())))))),())
noncomputable def aBk (q:iR):Env:=gQ prog tt [] [] [] [] [(216,UB),(246,abG q)]
theorem amg (q:iR) (H:H36 q):eP (aBk q):=eB aN [] aN (hx:=(aD Gx (aD H.2.2.2.2.1 aN)))
noncomputable def aoO:Code:=(f214.body).getD .skip
noncomputable def apg:Code:=cA (cA (cB (cA (cB (cB (aoO))))))
noncomputable def ahD:Code:=cA (cA (cA (cB (cB (cB (cA (cB (cB (cB (cB (cB (cA (cB (cA (cB (cB (cB (cB (cB (aoO))))))))))))))))))))
noncomputable def ahE:Code:=cA (cA (cA (cB (cB (cB (cB (cB (cB (aoO)))))))))
def arH:eG:=⟨[0,2,3,4,100003],[],[0,3],[],[],[]⟩
def aiC:eG:=⟨[0,5,100020],[],[0,5],[],[],[]⟩
def aiD:eG:=⟨[0,5,100036],[],[0,5],[],[],[]⟩
def Zq:SQ:=⟨us [ct,.u,cJ,bR,bR] 103,dc,bL⟩
def Z8:SQ:=⟨us eo 104,dc,bL⟩
def aaJ:SQ:=⟨us [] 108,dc,[]⟩
def abm (q:iR) {e:Type} (o:Int->Int->Int->(List fJ)->bW->Int->Int->Int->(List fE)->Option e) (s:Int->(List fJ)->bW->Int->Int->Int->(List fE)->Option e) (u:Option e) (f p d:Int) (g:List fJ) (h:bW) (i j l:Int) (m:List fE):Option e:=cond (iq d 6) (cond (gm [123,40,105,119,114,99] d) (cond (bT (bY [123,40,105,119,114,99] d) f) (o f (bZ .i64 9 d) (bZ .i64 d 1) g h i j l m)<|o f p (bZ .i64 d 1) g h i j l m) a7)<|s p g h i j l m
def vP (q:iR):Nat->Int->Int->Int->(List fJ)->bW->Int->Int->Int->(List fE)->Option (Z8.den⊕aaJ.den)
 |0,_,_,_,_,_,_,_,_,_=>a7
 |n+1,d,e,f,g,h,i,j,l,m=>abm q (vP q n) (fun o p s u v x y=>a6 (.inl ((o,()),((),()),((p,s,u,v,x,()),y,())))) (a6 (.inr ((),((),()),()))) d e f g h i j l m
def axm (q:iR) (n:Nat) (v:Zq.den):=vP q n v.1.1 v.1.2.1 v.1.2.2.1 v.2.2.1.1 v.2.2.1.2.1 v.2.2.1.2.2.1 v.2.2.1.2.2.2.1 v.2.2.1.2.2.2.2.1 v.2.2.2.1
noncomputable def ai7 (q:iR):dA:=fK arH Zq Z8 aaJ (.exit 0) (axm q bJ) 6
def PH:SQ:=⟨c6,dc,bL⟩
def KE:SQ:=⟨c6,dc,bL⟩
def KH:SQ:=⟨us [] 108,dc,[]⟩
def Ld (q:iR) {f:Type} (h i:Int->(List fJ)->bW->Int->Int->Int->(List fE)->Option f) (u:Option f) (g:Int) (j:List fJ) (l:bW) (m o p:Int) (s:List fE):Option f:=bF (VX j l s m o p) fun d=>cond d.2.1 (bF (acL d.1.1 d.1.2.1 d.1.2.2.1 d.1.2.2.2.1 d.1.2.2.2.2.1 d.1.2.2.2.2.2.1) fun e=>h g e.1.1 e.1.2.1 e.1.2.2.2.1 e.1.2.2.2.2.1 e.1.2.2.2.2.2.1 e.1.2.2.1)<|i g d.1.1 d.1.2.1 d.1.2.2.2.1 d.1.2.2.2.2.1 d.1.2.2.2.2.2.1 d.1.2.2.1
def jd (q:iR):Nat->Int->(List fJ)->bW->Int->Int->Int->(List fE)->Option (KE.den⊕KH.den)
 |0,_,_,_,_,_,_,_=>a7
 |n+1,d,e,f,g,h,i,j=>Ld q (jd q n) (fun l m o p s u v=>a6 (.inl ((l,()),((),()),((m,o,p,s,u,()),v,())))) (a6 (.inr ((),((),()),()))) d e f g h i j
def asj (q:iR) (n:Nat) (v:PH.den):=bo (jd q n) v
noncomputable def adx (q:iR):dA:=fK aiD PH KE KH (.exit 5) (asj q bJ) 12
def PG:SQ:=⟨c6,dc,bL⟩
def TJ:SQ:=⟨c6,dc,bL⟩
def TS:SQ:=⟨us [] 108,dc,[]⟩
def Lc (q:iR) {h:Type} (j l:Int->(List fJ)->bW->Int->Int->Int->(List fE)->Option h) (x:Option h) (i:Int) (m:List fJ) (o:bW) (p s u:Int) (v:List fE):Option h:=bF (nP m o v p s u [101]) fun d=>cond d.2.1 (bF (q.q246 d.1.1 d.1.2.1 d.1.2.2.1 (bZ .i64 d.1.2.2.2.1 1) d.1.2.2.2.2.1 d.1.2.2.2.2.2.1) fun e=>bF (mW e.1.1 e.1.2.1 e.1.2.2.1 e.1.2.2.2.1 e.1.2.2.2.2.1 e.1.2.2.2.2.2.1 [116]) fun f=>bF (q.q246 f.1.1 f.1.2.1 f.1.2.2.1 f.1.2.2.2.1 f.1.2.2.2.2.1 f.1.2.2.2.2.2.1) fun g=>j i g.1.1 g.1.2.1 g.1.2.2.2.1 g.1.2.2.2.2.1 g.1.2.2.2.2.2.1 g.1.2.2.1)<|l i d.1.1 d.1.2.1 d.1.2.2.2.1 d.1.2.2.2.2.1 d.1.2.2.2.2.2.1 d.1.2.2.1
def AV (q:iR):Nat->Int->(List fJ)->bW->Int->Int->Int->(List fE)->Option (TJ.den⊕TS.den)
 |0,_,_,_,_,_,_,_=>a7
 |n+1,d,e,f,g,h,i,j=>Lc q (AV q n) (fun l m o p s u v=>a6 (.inl ((l,()),((),()),((m,o,p,s,u,()),v,())))) (a6 (.inr ((),((),()),()))) d e f g h i j
def asi (q:iR) (n:Nat) (v:PG.den):=bo (AV q n) v
noncomputable def adw (q:iR):dA:=fK aiC PG TJ TS (.exit 3) (asi q bJ) 18
def nJ (f:KE.den⊕KH.den):Option Dv:=dL f (fun d=>bF (pz d.2.2.1.1 d.2.2.1.2.1 d.2.2.2.1 d.2.2.1.2.2.1 d.2.2.1.2.2.2.1 d.2.2.1.2.2.2.2.1 d.1.1) fun e=>a6 ((e.1.1,(e.1.2.1,(e.1.2.2.1,(e.1.2.2.2.1,(e.1.2.2.2.2.1,(e.1.2.2.2.2.2.1,())))))),())) (fun b6=>a7)
def Au (q:iR) (s:List fJ) (o:bW) (u:List fE) (p v x:Int):Option Dv:=cond (gm o p) (bF (vP q bJ (bY o p) 9 0 s o p v x u) fun y=>dL y (fun g=>bF (Dz g.2.2.1.1 g.2.2.1.2.1 g.2.2.2.1 g.2.2.1.2.2.1 g.2.2.1.2.2.2.1 g.2.2.1.2.2.2.2.1 g.1.1) fun d=>cond (bT g.1.1 9) (bF (q.q246 d.1.1 d.1.2.1 d.1.2.2.1 (bZ .i64 d.1.2.2.2.1 1) d.1.2.2.2.2.1 d.1.2.2.2.2.2.1) fun e=>bF (mW e.1.1 e.1.2.1 e.1.2.2.1 e.1.2.2.2.1 e.1.2.2.2.2.1 e.1.2.2.2.2.2.1 [125]) fun f=>bF (jd q bJ d.2.1 f.1.1 f.1.2.1 f.1.2.2.2.1 f.1.2.2.2.2.1 f.1.2.2.2.2.2.1 f.1.2.2.1) fun j=>nJ j)<|cond (bT g.1.1 10) (bF (q.q246 d.1.1 d.1.2.1 d.1.2.2.1 (bZ .i64 d.1.2.2.2.1 1) d.1.2.2.2.2.1 d.1.2.2.2.2.2.1) fun e=>bF (mW e.1.1 e.1.2.1 e.1.2.2.1 e.1.2.2.2.1 e.1.2.2.2.2.1 e.1.2.2.2.2.2.1 [41]) fun f=>bF (jd q bJ d.2.1 f.1.1 f.1.2.1 f.1.2.2.2.1 f.1.2.2.2.2.1 f.1.2.2.2.2.2.1 f.1.2.2.1) fun j=>nJ j)<|cond (bT g.1.1 11) (bF (q.q246 d.1.1 d.1.2.1 d.1.2.2.1 (bZ .i64 d.1.2.2.2.1 1) d.1.2.2.2.2.1 d.1.2.2.2.2.2.1) fun e=>bF (mW e.1.1 e.1.2.1 e.1.2.2.1 e.1.2.2.2.1 e.1.2.2.2.2.1 e.1.2.2.2.2.2.1 [116]) fun f=>bF (q.q246 f.1.1 f.1.2.1 f.1.2.2.1 f.1.2.2.2.1 f.1.2.2.2.2.1 f.1.2.2.2.2.2.1) fun j=>bF (AV q bJ d.2.1 j.1.1 j.1.2.1 j.1.2.2.2.1 j.1.2.2.2.2.1 j.1.2.2.2.2.2.1 j.1.2.2.1) fun z=>dL z (fun l=>bF (nP l.2.2.1.1 l.2.2.1.2.1 l.2.2.2.1 l.2.2.1.2.2.1 l.2.2.1.2.2.2.1 l.2.2.1.2.2.2.2.1 [108]) fun h=>cond h.2.1 (bF (q.q246 h.1.1 h.1.2.1 h.1.2.2.1 (bZ .i64 h.1.2.2.2.1 1) h.1.2.2.2.2.1 h.1.2.2.2.2.2.1) fun i=>bF (mW i.1.1 i.1.2.1 i.1.2.2.1 i.1.2.2.2.1 i.1.2.2.2.2.1 i.1.2.2.2.2.2.1 [102]) fun m=>bF (jd q bJ l.1.1 m.1.1 m.1.2.1 m.1.2.2.2.1 m.1.2.2.2.2.1 m.1.2.2.2.2.2.1 m.1.2.2.1) fun A=>nJ A)<|bF (mW h.1.1 h.1.2.1 h.1.2.2.1 h.1.2.2.2.1 h.1.2.2.2.2.1 h.1.2.2.2.2.2.1 [102]) fun i=>bF (jd q bJ l.1.1 i.1.1 i.1.2.1 i.1.2.2.2.1 i.1.2.2.2.2.1 i.1.2.2.2.2.2.1 i.1.2.2.1) fun m=>nJ m) (fun b7=>a7))<|cond (bT g.1.1 12) (bF (q.q246 d.1.1 d.1.2.1 d.1.2.2.1 (bZ .i64 d.1.2.2.2.1 1) d.1.2.2.2.2.1 d.1.2.2.2.2.2.1) fun e=>bF (q.q247 e.1.1 e.1.2.1 e.1.2.2.1 e.1.2.2.2.1 e.1.2.2.2.2.1 e.1.2.2.2.2.2.1) fun f=>bF (jd q bJ d.2.1 f.1.1 f.1.2.1 f.1.2.2.2.1 f.1.2.2.2.2.1 f.1.2.2.2.2.2.1 f.1.2.2.1) fun j=>nJ j)<|cond (bT g.1.1 13) (bF (q.q248 d.1.1 d.1.2.1 d.1.2.2.1 (bZ .i64 d.1.2.2.2.1 1) d.1.2.2.2.2.1 d.1.2.2.2.2.2.1) fun e=>bF (jd q bJ d.2.1 e.1.1 e.1.2.1 e.1.2.2.2.1 e.1.2.2.2.2.1 e.1.2.2.2.2.2.1 e.1.2.2.1) fun f=>nJ f)<|cond (bT g.1.1 14) (bF (q.q249 d.1.1 d.1.2.1 d.1.2.2.1 (bZ .i64 d.1.2.2.2.1 1) d.1.2.2.2.2.1 d.1.2.2.2.2.2.1) fun e=>bF (jd q bJ d.2.1 e.1.1 e.1.2.1 e.1.2.2.2.1 e.1.2.2.2.2.1 e.1.2.2.2.2.2.1 e.1.2.2.1) fun f=>nJ f)<|bF (jd q bJ d.2.1 d.1.1 d.1.2.1 (bZ .i64 d.1.2.2.2.1 1) d.1.2.2.2.2.1 d.1.2.2.2.2.2.1 d.1.2.2.1) fun e=>nJ e) (fun B=>a7)) a7
noncomputable def Ru (q:iR):Env:=gQ prog tt [] [(214,3,arH),(214,20,aiC),(214,36,aiD)] [(214,3,ai7 q),(214,36,adx q),(214,20,adw q)] [] [(33,OT),(34,H6),(38,OU),(117,ahd),(216,UB),(217,ahj),(246,abG q),(247,abH q),(248,ak4 q),(249,ak5 q)]
def aku (q:iR) {d:Type} (a:Zq.den->Option d) (b:Z8.den->Option d) (c:aaJ.den->Option d) (v:Zq.den):Option d:=abm q (fun e f g h i j l m o=>a ((e,f,g,()),((),()),((h,i,j,l,m,()),o,()))) (bm b) (c ((),((),()),())) v.1.1 v.1.2.1 v.1.2.2.1 v.2.2.1.1 v.2.2.1.2.1 v.2.2.1.2.2.1 v.2.2.1.2.2.2.1 v.2.2.1.2.2.2.2.1 v.2.2.2.1
theorem ax9 (q:iR):dQ (Ru q) 214 apg (ai7 q):=mO (aku q) (h2:=by intros;simp only[aku,bm,abm,cu,cO,bD,bV,cZ])
def aeb (q:iR) {d:Type} (a:PH.den->Option d) (b:KE.den->Option d) (c:KH.den->Option d) (v:PH.den):Option d:=bo (Ld q (bm a) (bm b) (c ((),((),()),()))) v
theorem asZ (q:iR):dQ (Ru q) 214 ahE (adx q):=mO (aeb q) (h2:=by intros;simp only[aeb,bm,bo,Ld,cu,cO,bD,bV,cZ])
def aea (q:iR) {d:Type} (a:PG.den->Option d) (b:TJ.den->Option d) (c:TS.den->Option d) (v:PG.den):Option d:=bo (Lc q (bm a) (bm b) (c ((),((),()),()))) v
theorem asY (q:iR):dQ (Ru q) 214 ahD (adw q):=mO (aea q) (h2:=by intros;simp only[aea,bm,bo,Lc,cu,cO,bD,bV,cZ])
theorem aCj (q:iR):dO (Ru q) 214 aoO:=pI [apg,ahD,ahE] (aD (fM (ax9 q)) (aD (fM (asY q)) (aD (fM (asZ q)) aN)))
theorem al9 (q:iR) (H:H36 q):eP (Ru q):=eB aN [214] (aD ⟨f214,aoO,by kernel_rfl,by kernel_rfl,aCj q⟩ aN) (hx:=(aD pX (aD kG (aD pY (aD Nu (aD Gx (aD Xm (aD H.2.2.2.2.1 (aD H.2.2.2.2.2.1 (aD H.2.2.2.2.2.2.2.1 (aD H.2.2.2.2.2.2.2.2 aN)))))))))))
noncomputable def aA2:Code:=(f248.body).getD .skip
noncomputable def apl:Code:=cA (cA (cA (cB (cA (cB (cB (cB (cB (cA (cB (aA2)))))))))))
def arL:eG:=⟨[0,100009],[],[0],[],[],[]⟩
def Zw:SQ:=⟨us bO 112,dc,bL⟩
def aae:SQ:=⟨us bO 112,dc,bL⟩
def aaO:SQ:=⟨us [] 113,dc,[]⟩
def Qv (q:iR) {g:Type} (o m:(List fJ)->bW->Int->Int->Int->(List fE)->Option g) (p:Option g) (d:List fJ) (h:bW) (e i j:Int) (l:List fE):Option g:=cond (iq e (bG d)) (cond (gm d e) (cond (bT (eX d (0,([],(0,(0,())))) e).1 6) (bF (L9 d h l e i j 7) fun f=>o f.1.1 f.1.2.1 f.1.2.2.2.1 f.1.2.2.2.2.1 f.1.2.2.2.2.2.1 f.1.2.2.1)<|m d h e i j l) a7)<|m d h e i j l
def FT (q:iR):Nat->(List fJ)->bW->Int->Int->Int->(List fE)->Option (aae.den⊕aaO.den)
 |0,_,_,_,_,_,_=>a7
 |n+1,d,e,f,g,h,i=>Qv q (FT q n) (fun j l m o p s=>a6 (.inl ((),((),()),((j,l,m,o,p,()),s,())))) (a6 (.inr ((),((),()),()))) d e f g h i
def axr (q:iR) (n:Nat) (v:Zw.den):=FT q n v.2.2.1.1 v.2.2.1.2.1 v.2.2.1.2.2.1 v.2.2.1.2.2.2.1 v.2.2.1.2.2.2.2.1 v.2.2.2.1
noncomputable def ajc (q:iR):dA:=fK arL Zw aae aaO (.exit 0) (axr q bJ) 6
def Jz (l:Dv) (q:iR):Option Dv:=bF (nP l.1.1 l.1.2.1 l.1.2.2.1 l.1.2.2.2.1 l.1.2.2.2.2.1 l.1.2.2.2.2.2.1 [59]) fun g=>cond g.2.1 (bF (rP g.1.1 g.1.2.1 g.1.2.2.1 (bZ .i64 g.1.2.2.2.1 1) g.1.2.2.2.2.1 g.1.2.2.2.2.2.1) fun h=>bF (q.q247 h.1.1 h.1.2.1 h.1.2.2.1 h.1.2.2.2.1 h.1.2.2.2.2.1 h.1.2.2.2.2.2.1) fun d=>a6 ((d.1.1,(d.1.2.1,(d.1.2.2.1,(d.1.2.2.2.1,(d.1.2.2.2.2.1,(d.1.2.2.2.2.2.1,())))))),()))<|bF (rP g.1.1 g.1.2.1 g.1.2.2.1 g.1.2.2.2.1 g.1.2.2.2.2.1 g.1.2.2.2.2.2.1) fun h=>bF (nP h.1.1 h.1.2.1 h.1.2.2.1 h.1.2.2.2.1 h.1.2.2.2.2.1 h.1.2.2.2.2.2.1 [107]) fun d=>cond d.2.1 (bF (FT q bJ d.1.1 d.1.2.1 (bZ .i64 d.1.2.2.2.1 1) d.1.2.2.2.2.1 d.1.2.2.2.2.2.1 d.1.2.2.1) fun j=>dL j (fun m=>bF (nP m.2.2.1.1 m.2.2.1.2.1 m.2.2.2.1 m.2.2.1.2.2.1 m.2.2.1.2.2.2.1 m.2.2.1.2.2.2.2.1 [59]) fun i=>cond i.2.1 (bF (rP i.1.1 i.1.2.1 i.1.2.2.1 (bZ .i64 i.1.2.2.2.1 1) i.1.2.2.2.2.1 i.1.2.2.2.2.2.1) fun e=>bF (q.q247 e.1.1 e.1.2.1 e.1.2.2.1 e.1.2.2.2.1 e.1.2.2.2.2.1 e.1.2.2.2.2.2.1) fun f=>a6 ((f.1.1,(f.1.2.1,(f.1.2.2.1,(f.1.2.2.2.1,(f.1.2.2.2.2.1,(f.1.2.2.2.2.2.1,())))))),()))<|bF (rP i.1.1 i.1.2.1 i.1.2.2.1 i.1.2.2.2.1 i.1.2.2.2.2.1 i.1.2.2.2.2.2.1) fun e=>cond (bT e.2.1 0) (bF (uA e.1.1 e.1.2.1 e.1.2.2.1 e.1.2.2.2.1 e.1.2.2.2.2.1 e.1.2.2.2.2.2.1) fun f=>bF (q.q247 f.1.1 f.1.2.1 f.1.2.2.1 f.1.2.2.2.1 f.1.2.2.2.2.1 f.1.2.2.2.2.2.1) fun o=>a6 ((o.1.1,(o.1.2.1,(o.1.2.2.1,(o.1.2.2.2.1,(o.1.2.2.2.2.1,(o.1.2.2.2.2.2.1,())))))),()))<|bF (q.q247 e.1.1 e.1.2.1 e.1.2.2.1 e.1.2.2.2.1 e.1.2.2.2.2.1 e.1.2.2.2.2.2.1) fun f=>a6 ((f.1.1,(f.1.2.1,(f.1.2.2.1,(f.1.2.2.2.1,(f.1.2.2.2.2.1,(f.1.2.2.2.2.2.1,())))))),())) (fun b6=>a7))<|bF (q.q247 d.1.1 d.1.2.1 d.1.2.2.1 d.1.2.2.2.1 d.1.2.2.2.2.1 d.1.2.2.2.2.2.1) fun j=>a6 ((j.1.1,(j.1.2.1,(j.1.2.2.1,(j.1.2.2.2.1,(j.1.2.2.2.2.1,(j.1.2.2.2.2.2.1,())))))),())
def aqH (q:iR) (d:List fJ) (g:bW) (h:List fE) (e i j:Int):Option Dv:=cond (iq e (bG d)) (cond (gm d e) (cond (bT (eX d (0,([],(0,(0,())))) e).1 6) (cond (gm d e) (bF (RS (eX d (0,([],(0,(0,())))) e).2.1) fun f=>cond f.1 (bF (L9 d g h e i j 7) fun l=>Jz l q)<|bF (uA d g h e i j) fun l=>Jz l q) a7)<|bF (uA d g h e i j) fun f=>Jz f q) a7)<|bF (uA d g h e i j) fun f=>Jz f q
noncomputable def afj (q:iR):Env:=gQ prog tt [(215,UA)] [(248,9,arL)] [(248,9,ajc q)] [] [(34,H6),(37,ale),(76,OV),(120,Uz),(247,abH q)]
def akz (q:iR) {d:Type} (a:Zw.den->Option d) (b:aae.den->Option d) (c:aaO.den->Option d) (v:Zw.den):Option d:=Qv q (fun e f g h i j=>a ((),((),()),((e,f,g,h,i,()),j,()))) (fun l m o p s u=>b ((),((),()),((l,m,o,p,s,()),u,()))) (c ((),((),()),())) v.2.2.1.1 v.2.2.1.2.1 v.2.2.1.2.2.1 v.2.2.1.2.2.2.1 v.2.2.1.2.2.2.2.1 v.2.2.2.1
theorem aye (q:iR):dQ (afj q) 248 apl (ajc q):=mO (akz q) (h2:=by intros;simp only[akz,Qv,cu,cO,bD,bV,cZ])
theorem aCo (q:iR):dO (afj q) 248 aA2:=pI [apl] (aD (fM (aye q)) aN)
theorem amh (q:iR) (H:H36 q):eP (afj q):=eB (aD Gw aN) [248] (aD ⟨f248,aA2,by kernel_rfl,by kernel_rfl,aCo q⟩ aN) (hx:=(aD kG (aD Lt (aD xP (aD wW (aD H.2.2.2.2.2.1 aN))))))
noncomputable def avO:Code:=(f249.body).getD .skip
noncomputable def ahF:Code:=cA (cA (cA (cB (cB (cB (cA (cB (cA (cA (cA (cB (cB (cB (cB (cB (avO))))))))))))))))
noncomputable def apm:Code:=cA (cA (cA (cB (cB (cB (cB (cB (avO))))))))
def aiE:eG:=⟨[0,3,100010],[],[0,3],[],[],[]⟩
def arM:eG:=⟨[0,2,100005],[],[0],[],[],[]⟩
def PK:SQ:=⟨us eo 96,dc,bL⟩
def TL:SQ:=⟨us eo 96,dc,bL⟩
def TU:SQ:=⟨us [] 100,dc,[]⟩
def Lh (q:iR) {f:Type} (h i:Int->(List fJ)->bW->Int->Int->Int->(List fE)->Option f) (u:Option f) (g:Int) (j:List fJ) (l:bW) (m o p:Int) (s:List fE):Option f:=bF (nP j l s m o p [124]) fun d=>cond d.2.1 (bF (xx d.1.1 d.1.2.1 d.1.2.2.1 (bZ .i64 d.1.2.2.2.1 1) d.1.2.2.2.2.1 d.1.2.2.2.2.2.1) fun e=>h g e.1.1 e.1.2.1 e.1.2.2.2.1 e.1.2.2.2.2.1 e.1.2.2.2.2.2.1 e.1.2.2.1)<|i g d.1.1 d.1.2.1 d.1.2.2.2.1 d.1.2.2.2.2.1 d.1.2.2.2.2.2.1 d.1.2.2.1
def uD (q:iR):Nat->Int->(List fJ)->bW->Int->Int->Int->(List fE)->Option (TL.den⊕TU.den)
 |0,_,_,_,_,_,_,_=>a7
 |n+1,d,e,f,g,h,i,j=>Lh q (uD q n) (fun l m o p s u v=>a6 (.inl ((l,()),((),()),((m,o,p,s,u,()),v,())))) (a6 (.inr ((),((),()),()))) d e f g h i j
def asl (q:iR) (n:Nat) (v:PK.den):=bo (uD q n) v
noncomputable def ady (q:iR):dA:=fK aiE PK TL TU (.exit 2) (asl q bJ) 6
def Zx:SQ:=⟨us [ct,.u,cg] 97,dc,bL⟩
def aaf:SQ:=⟨us bO 99,dc,bL⟩
def aaP:SQ:=⟨us [] 100,dc,[]⟩
def sN {p:Type} (q:iR) (s:(taF×lW)) (i:Dv) (o:Bool->(List fJ)->bW->Int->Int->Int->(List fE)->Option p) (u:Option p):Option p:=bF (uD q bJ s.2.1 i.1.1 i.1.2.1 i.1.2.2.2.1 i.1.2.2.2.2.1 i.1.2.2.2.2.2.1 i.1.2.2.1) fun v=>dL v (fun h=>bF (mW h.2.2.1.1 h.2.2.1.2.1 h.2.2.2.1 h.2.2.1.2.2.1 h.2.2.1.2.2.2.1 h.2.2.1.2.2.2.2.1 [41]) fun j=>bF (rP j.1.1 j.1.2.1 j.1.2.2.1 j.1.2.2.2.1 j.1.2.2.2.2.1 j.1.2.2.2.2.2.1) fun l=>bF (OY l.1.1 l.1.2.1 l.1.2.2.1 l.1.2.2.2.1 l.1.2.2.2.2.1 l.1.2.2.2.2.2.1) fun f=>cond f.2.1 (bF (q.q36 f.1.1 f.1.2.1 f.1.2.2.1 f.1.2.2.2.1 f.1.2.2.2.2.1 f.1.2.2.2.2.2.1) fun g=>bF (pz g.1.1 g.1.2.1 g.1.2.2.1 g.1.2.2.2.1 g.1.2.2.2.2.1 g.1.2.2.2.2.2.1 h.1.1) fun d=>bF (nP d.1.1 d.1.2.1 d.1.2.2.1 d.1.2.2.2.1 d.1.2.2.2.2.1 d.1.2.2.2.2.2.1 [121]) fun e=>cond e.2.1 (bF (rP e.1.1 e.1.2.1 e.1.2.2.1 (bZ .i64 e.1.2.2.2.1 1) e.1.2.2.2.2.1 e.1.2.2.2.2.2.1) fun m=>o e.2.1 m.1.1 m.1.2.1 m.1.2.2.2.1 m.1.2.2.2.2.1 m.1.2.2.2.2.2.1 m.1.2.2.1)<|o e.2.1 e.1.1 e.1.2.1 e.1.2.2.2.1 e.1.2.2.2.2.1 e.1.2.2.2.2.2.1 e.1.2.2.1)<|bF (pz f.1.1 f.1.2.1 f.1.2.2.1 f.1.2.2.2.1 f.1.2.2.2.2.1 f.1.2.2.2.2.2.1 h.1.1) fun g=>bF (nP g.1.1 g.1.2.1 g.1.2.2.1 g.1.2.2.2.1 g.1.2.2.2.2.1 g.1.2.2.2.2.2.1 [121]) fun d=>cond d.2.1 (bF (rP d.1.1 d.1.2.1 d.1.2.2.1 (bZ .i64 d.1.2.2.2.1 1) d.1.2.2.2.2.1 d.1.2.2.2.2.2.1) fun e=>o d.2.1 e.1.1 e.1.2.1 e.1.2.2.2.1 e.1.2.2.2.2.1 e.1.2.2.2.2.2.1 e.1.2.2.1)<|o d.2.1 d.1.1 d.1.2.1 d.1.2.2.2.1 d.1.2.2.2.2.1 d.1.2.2.2.2.2.1 d.1.2.2.1) (fun x=>u)
def Lj (q:iR) {h:Type} (i:Bool->(List fJ)->bW->Int->Int->Int->(List fE)->Option h) (j:(List fJ)->bW->Int->Int->Int->(List fE)->Option h) (l:Option h) (y:Bool) (o:List fJ) (p:bW) (s u v:Int) (x:List fE):Option h:=cond y (bF (nP o p x s u v [40]) fun d=>cond d.2.1 (bF (Dz d.1.1 d.1.2.1 d.1.2.2.1 d.1.2.2.2.1 d.1.2.2.2.2.1 d.1.2.2.2.2.2.1 15) fun e=>bF (nP e.1.1 e.1.2.1 e.1.2.2.1 e.1.2.2.2.1 e.1.2.2.2.2.1 e.1.2.2.2.2.2.1 [40]) fun f=>cond f.2.1 (bF (xx f.1.1 f.1.2.1 f.1.2.2.1 (bZ .i64 f.1.2.2.2.1 1) f.1.2.2.2.2.1 f.1.2.2.2.2.2.1) fun g=>sN q e g i l)<|bF (xx f.1.1 f.1.2.1 f.1.2.2.1 f.1.2.2.2.1 f.1.2.2.2.2.1 f.1.2.2.2.2.2.1) fun g=>sN q e g i l)<|cond (iq d.1.2.2.2.1 (bG d.1.1)) (cond (gm d.1.1 d.1.2.2.2.1) (cond (bT (eX d.1.1 (0,([],(0,(0,())))) d.1.2.2.2.1).1 6) (bF (nP d.1.1 d.1.2.1 d.1.2.2.1 d.1.2.2.2.1 d.1.2.2.2.2.1 d.1.2.2.2.2.2.1 [122]) fun e=>cond (!e.2.1) (bF (Dz e.1.1 e.1.2.1 e.1.2.2.1 e.1.2.2.2.1 e.1.2.2.2.2.1 e.1.2.2.2.2.2.1 15) fun f=>bF (nP f.1.1 f.1.2.1 f.1.2.2.1 f.1.2.2.2.1 f.1.2.2.2.2.1 f.1.2.2.2.2.2.1 [40]) fun g=>cond g.2.1 (bF (xx g.1.1 g.1.2.1 g.1.2.2.1 (bZ .i64 g.1.2.2.2.1 1) g.1.2.2.2.2.1 g.1.2.2.2.2.2.1) fun m=>sN q f m i l)<|bF (xx g.1.1 g.1.2.1 g.1.2.2.1 g.1.2.2.2.1 g.1.2.2.2.2.1 g.1.2.2.2.2.2.1) fun m=>sN q f m i l)<|j e.1.1 e.1.2.1 e.1.2.2.2.1 e.1.2.2.2.2.1 e.1.2.2.2.2.2.1 e.1.2.2.1)<|j d.1.1 d.1.2.1 d.1.2.2.2.1 d.1.2.2.2.2.1 d.1.2.2.2.2.2.1 d.1.2.2.1) a7)<|j d.1.1 d.1.2.1 d.1.2.2.2.1 d.1.2.2.2.2.1 d.1.2.2.2.2.2.1 d.1.2.2.1)<|j o p s u v x
def yL (q:iR):Nat->Bool->(List fJ)->bW->Int->Int->Int->(List fE)->Option (aaf.den⊕aaP.den)
 |0,_,_,_,_,_,_,_=>a7
 |n+1,d,e,f,g,h,i,j=>Lj q (yL q n) (fun l m o p s u=>a6 (.inl ((),((),()),((l,m,o,p,s,()),u,())))) (a6 (.inr ((),((),()),()))) d e f g h i j
def axs (q:iR) (n:Nat) (v:Zx.den):=bo (yL q n) v
noncomputable def ajd (q:iR):dA:=fK arM Zx aaf aaP (.exit 0) (axs q bJ) 12
def aqI (q:iR) (j:List fJ) (l:bW) (m:List fE) (o p s:Int):Option Dv:=bF (xx j l m o p s) fun d=>bF (rP d.1.1 d.1.2.1 d.1.2.2.1 d.1.2.2.2.1 d.1.2.2.2.2.1 d.1.2.2.2.2.2.1) fun e=>bF (mW e.1.1 e.1.2.1 e.1.2.2.1 e.1.2.2.2.1 e.1.2.2.2.2.1 e.1.2.2.2.2.2.1 [107]) fun f=>bF (rP f.1.1 f.1.2.1 f.1.2.2.1 f.1.2.2.2.1 f.1.2.2.2.2.1 f.1.2.2.2.2.2.1) fun g=>bF (yL q bJ true g.1.1 g.1.2.1 g.1.2.2.2.1 g.1.2.2.2.2.1 g.1.2.2.2.2.2.1 g.1.2.2.1) fun u=>dL u (fun h=>bF (mW h.2.2.1.1 h.2.2.1.2.1 h.2.2.2.1 h.2.2.1.2.2.1 h.2.2.1.2.2.2.1 h.2.2.1.2.2.2.2.1 [122]) fun i=>a6 ((i.1.1,(i.1.2.1,(i.1.2.2.1,(i.1.2.2.2.1,(i.1.2.2.2.2.1,(i.1.2.2.2.2.2.1,())))))),())) (fun v=>a7)
noncomputable def X7 (q:iR):Env:=gQ prog tt [] [(249,10,aiE),(249,5,arM)] [(249,10,ady q),(249,5,ajd q)] [] [(33,OT),(34,H6),(35,Xt),(36,ahl q),(38,OU),(76,OV),(216,UB),(250,au1)]
def aec (q:iR) {d:Type} (a:PK.den->Option d) (b:TL.den->Option d) (c:TU.den->Option d) (v:PK.den):Option d:=bo (Lh q (bm a) (bm b) (c ((),((),()),()))) v
theorem as1 (q:iR):dQ (X7 q) 249 ahF (ady q):=mO (aec q) (h2:=by intros;simp only[aec,bm,bo,Lh,cu,cO,bD,bV,cZ])
def akA (q:iR) {d:Type} (a:Zx.den->Option d) (b:aaf.den->Option d) (c:aaP.den->Option d) (v:Zx.den):Option d:=bo (Lj q (bm a) (fun e f g h i j=>b ((),((),()),((e,f,g,h,i,()),j,()))) (c ((),((),()),()))) v
theorem ayf (q:iR):dQ (X7 q) 249 apm (ajd q):=mO (akA q) (h2:=by intros;simp only[akA,bm,bo,Lj,cu,cO,bD,bV,cZ,sN])
theorem aCp (q:iR):dO (X7 q) 249 avO:=pI [ahF,apm] (aD (fM (as1 q)) (aD (fM (ayf q)) aN))
theorem ami (q:iR) (H:H36 q):eP (X7 q):=eB aN [249] (aD ⟨f249,avO,by kernel_rfl,by kernel_rfl,aCp q⟩ aN) (hx:=(aD pX (aD kG (aD EQ (aD H.1 (aD pY (aD xP (aD Gx (aD Xq aN)))))))))
def gz:Nat->iR
 |0=>⟨(fun _ _ _ _ _ _=>a7),(fun _ _ _ _ _ _=>a7),(fun _ _ _ _ _ _=>a7),(fun _ _ _ _ _ _=>a7),(fun _ _ _ _ _ _=>a7),(fun _ _ _ _ _ _=>a7),(fun _ _ _ _ _ _=>a7),(fun _ _ _ _ _ _=>a7),(fun _ _ _ _ _ _=>a7)⟩
 |r+1=>⟨aBz (gz r),aBA (gz r),aqB (gz r),aqD (gz r),aqF (gz r),aqG (gz r),Au (gz r),aqH (gz r),aqI (gz r)⟩
def aBB (d:List fJ) (e:bW) (f:List fE) (g h i:Int):Option Dv:=(gz bJ).q36 d e f g h i
def aAl:fF:=⟨82,I4,[],[],fun x y=>aBB x.1 x.2.1 x.2.2.1 x.2.2.2.1 x.2.2.2.2.1 x.2.2.2.2.2.1⟩
def aI1 (d:List fJ) (e:bW) (f:List fE) (g h i:Int):Option Dv:=(gz bJ).q75 d e f g h i
def aHV:fF:=⟨82,I4,[],[],fun x y=>aI1 x.1 x.2.1 x.2.2.1 x.2.2.2.1 x.2.2.2.2.1 x.2.2.2.2.2.1⟩
def aGm (d:List fJ) (e:bW) (f:List fE) (g h i:Int):Option Dv:=(gz bJ).q119 d e f g h i
def aEc:fF:=⟨82,I4,[],[],fun x y=>aGm x.1 x.2.1 x.2.2.1 x.2.2.2.1 x.2.2.2.2.1 x.2.2.2.2.2.1⟩
def aGo (d:List fJ) (e:bW) (f:List fE) (g h i:Int):Option Dv:=(gz bJ).q163 d e f g h i
def aEn:fF:=⟨82,I4,[],[],fun x y=>aGo x.1 x.2.1 x.2.2.1 x.2.2.2.1 x.2.2.2.2.1 x.2.2.2.2.2.1⟩
def aGs (d:List fJ) (e:bW) (f:List fE) (g h i:Int):Option Dv:=(gz bJ).q246 d e f g h i
def aEQ:fF:=⟨82,I4,[],[],fun x y=>aGs x.1 x.2.1 x.2.2.1 x.2.2.2.1 x.2.2.2.2.1 x.2.2.2.2.2.1⟩
def aGt (d:List fJ) (e:bW) (f:List fE) (g h i:Int):Option Dv:=(gz bJ).q247 d e f g h i
def aER:fF:=⟨82,I4,[],[],fun x y=>aGt x.1 x.2.1 x.2.2.1 x.2.2.2.1 x.2.2.2.2.1 x.2.2.2.2.2.1⟩
def aGq (d:List fJ) (e:bW) (f:List fE) (g h i:Int):Option Dv:=(gz bJ).q214 d e f g h i
def aEH:fF:=⟨82,I4,[],[],fun x y=>aGq x.1 x.2.1 x.2.2.1 x.2.2.2.1 x.2.2.2.2.1 x.2.2.2.2.2.1⟩
def aGu (d:List fJ) (e:bW) (f:List fE) (g h i:Int):Option Dv:=(gz bJ).q248 d e f g h i
def aES:fF:=⟨82,I4,[],[],fun x y=>aGu x.1 x.2.1 x.2.2.1 x.2.2.2.1 x.2.2.2.2.1 x.2.2.2.2.2.1⟩
def aGv (d:List fJ) (e:bW) (f:List fE) (g h i:Int):Option Dv:=(gz bJ).q249 d e f g h i
def aET:fF:=⟨82,I4,[],[],fun x y=>aGv x.1 x.2.1 x.2.2.1 x.2.2.2.1 x.2.2.2.2.1 x.2.2.2.2.2.1⟩
theorem abc (q:iR) (d:H36 q):H36 ⟨aBz q,aBA q,aqB q,aqD q,aqF q,aqG q,Au q,aqH q,aqI q⟩:=⟨sB (ap1 q d),sB (aqi q d),sB (alP q d),sB (alY q d),sB (amf q d),sB (amg q d),sB (al9 q d),sB (amh q d),sB (ami q d)⟩
theorem zY: ∀r,H36 (gz r)
 |0=>⟨nO fun _ _=>rfl,nO fun _ _=>rfl,nO fun _ _=>rfl,nO fun _ _=>rfl,nO fun _ _=>rfl,nO fun _ _=>rfl,nO fun _ _=>rfl,nO fun _ _=>rfl,nO fun _ _=>rfl⟩
 |r+1=>abc _ (zY r)
theorem au8:dI prog 36 aAl:=(zY bJ).1
theorem aHW:dI prog 75 aHV:=(zY bJ).2.1
theorem aFn:dI prog 119 aEc:=(zY bJ).2.2.1
theorem aFp:dI prog 163 aEn:=(zY bJ).2.2.2.1
theorem aFt:dI prog 246 aEQ:=(zY bJ).2.2.2.2.1
theorem aFu:dI prog 247 aER:=(zY bJ).2.2.2.2.2.1
theorem aFr:dI prog 214 aEH:=(zY bJ).2.2.2.2.2.2.1
theorem aFv:dI prog 248 aES:=(zY bJ).2.2.2.2.2.2.2.1
theorem aFw:dI prog 249 aET:=(zY bJ).2.2.2.2.2.2.2.2
noncomputable def b18:Code:=(f18.body).getD .skip
noncomputable def ay7:Code:=cA (cA (cB (cA (cB (cB (b18))))))
noncomputable def ay8:Code:=cA (cA (cA (cB (cB (cB (cB (cB (cB (b18)))))))))
def azz:eG:=⟨[0,3,4,100003],[],[0,3],[],[2],[(2,oZ)]⟩
def azA:eG:=⟨[0,5,6,7,100009],[],[5,6],[],[2],[(2,oZ)]⟩
def ajx:SP:=⟨us [.v nR,.u,.u,bS,bR] 56,[]⟩
def agj:SP:=⟨us [.v nR,.u,.u,bS] 57,[]⟩
def agE:SP:=⟨us [.u,.u,eK] 58,[]⟩
def abk {e:Type} (i:(List fJ)->bW->Int->Option e) (j:(List fJ)->bW->Option e) (l:(List fE)->Option e) (d:List fJ) (g:bW) (f:Int):Option e:=cond (iq f (bG d)) (cond (gm d f) (bF (lY (eX d (0,([],(0,(0,())))) f)) fun h=>cond (iD g h.1) (i d (bM g h.1) (bZ .i64 f 1)) a7) a7)<|j d g
def MJ:Nat->(List fJ)->bW->Int->Option (agj.den⊕agE.den)
 |0,_,_,_=>a7
 |n+1,d,e,f=>abk (MJ n) (fun g h=>a6 (.inl ((g,h,()),()))) (fun i=>a6 (.inr ((i,()),()))) d e f
def aCB (n:Nat) (v:ajx.den):=a8 (MJ n) v
noncomputable def ass:dA:=fH azz ajx agj agE (.exit 0) (aCB bJ) 6
def ajy:SP:=⟨us [.v nR,.u,.u,.u,.u,.ptr 1000024 0,bR,bR] 53,dq⟩
def agk:SP:=⟨us [.u,.u,.u,.u,.u,.ptr 1000024 0,bR] 54,dq⟩
def agF:SP:=⟨us [.u,.u,eK] 58,[]⟩
def abl {i:Type} (j:(List fJ)->Int->Int->(List fE)->(List fJ)->bW->Int->Int->Int->Option i) (v:Int->(List fE)->(List fJ)->bW->Int->Int->Int->Option i) (x:(List fE)->Option i) (g:List fJ) (h m:Int) (o:List fE) (p:List fJ) (q:bW) (l s u:Int):Option i:=cond (iq l (bG g)) (bF (nP p q o l s u [110]) fun e=>cond e.2.1 (j g h m e.1.2.2.1 e.1.1 e.1.2.1 (bZ .i64 e.1.2.2.2.1 1) e.1.2.2.2.2.1 e.1.2.2.2.2.2.1)<|cond (!(bT m 2)) (bF (OY e.1.1 e.1.2.1 e.1.2.2.1 e.1.2.2.2.1 e.1.2.2.2.2.1 e.1.2.2.2.2.2.1) fun d=>cond d.2.1 (bF (aBB d.1.1 d.1.2.1 d.1.2.2.1 d.1.2.2.2.1 d.1.2.2.2.2.1 d.1.2.2.2.2.2.1) fun f=>j g h 2 f.1.2.2.1 f.1.1 f.1.2.1 f.1.2.2.2.1 f.1.2.2.2.2.1 f.1.2.2.2.2.2.1)<|bF (L9 d.1.1 d.1.2.1 d.1.2.2.1 d.1.2.2.2.1 d.1.2.2.2.2.1 d.1.2.2.2.2.2.1 17) fun f=>j g h 17 f.1.2.2.1 f.1.1 f.1.2.1 f.1.2.2.2.1 f.1.2.2.2.2.1 f.1.2.2.2.2.2.1)<|bF (L9 e.1.1 e.1.2.1 e.1.2.2.1 e.1.2.2.2.1 e.1.2.2.2.2.1 e.1.2.2.2.2.2.1 17) fun d=>j g h 17 d.1.2.2.1 d.1.1 d.1.2.1 d.1.2.2.2.1 d.1.2.2.2.2.1 d.1.2.2.2.2.2.1)<|v h o p q l s u
def IA:Nat->(List fJ)->Int->Int->(List fE)->(List fJ)->bW->Int->Int->Int->Option (agk.den⊕agF.den)
 |0,_,_,_,_,_,_,_,_,_=>a7
 |n+1,d,e,f,g,h,i,j,l,m=>abl (IA n) (fun o p q s u v x=>a6 (.inl ((o,()),(p,(q,s,u,v,x,()),())))) (fun y=>a6 (.inr ((y,()),()))) d e f g h i j l m
def aCC (n:Nat) (v:ajy.den):=IA n v.1.1 v.1.2.1 v.1.2.2.1 v.2.1 v.2.2.1.1 v.2.2.1.2.1 v.2.2.1.2.2.1 v.2.2.1.2.2.2.1 v.2.2.1.2.2.2.2.1
noncomputable def ast:dA:=fH azA ajy agk agF (.exit 2) (aCC bJ) 12
def amJ (g:List fJ):Option ((List fE)×Unit):=bF (MJ bJ g [] 0) fun h=>dL h (fun f=>bF (Dz f.1.1 f.1.2.1 [] 0 (-1) 0 1) fun d=>bF (IA bJ f.1.1 d.2.1 0 d.1.2.2.1 d.1.1 d.1.2.1 d.1.2.2.2.1 d.1.2.2.2.2.1 d.1.2.2.2.2.2.1) fun i=>dL i (fun e=>bF (pz e.2.2.1.1 e.2.2.1.2.1 e.2.1 e.2.2.1.2.2.1 e.2.2.1.2.2.2.1 e.2.2.1.2.2.2.2.1 e.1.1) fun j=>a6 (j.1.2.2.1,())) (fun l=>a6 (l.1.1,()))) (fun m=>a6 (m.1.1,()))
def auM:Sum:=⟨[nR],[(.list oZ,false)],fun x=>amJ x.1⟩
noncomputable def ahL:Env:=iU prog tt 18 [(32,aAk)] [(3,azz),(9,azA)] [(3,ass),(9,ast)] [(33,OT),(34,H6),(35,Xt),(36,aAl),(37,ale),(38,OU)]
def atC {d:Type} (a:ajx.den->Option d) (b:agj.den->Option d) (c:agE.den->Option d) (v:ajx.den):Option d:=a8 (abk (fun e f g=>a ((e,f,g,()),())) (aL b) (aE c)) v
theorem aC4:dQ ahL 18 ay7 ass:=vS (atC) (h2:=by intros;simp only[atC,aL,aE,a8,abk,cu,cO,bD,bV,cZ])
def atD {d:Type} (a:ajy.den->Option d) (b:agk.den->Option d) (c:agF.den->Option d) (v:ajy.den):Option d:=abl (fun e f g h i j l m o=>a ((e,f,g,()),(h,(i,j,l,m,o,()),()))) (fun p q s u x y z=>b ((p,()),(q,(s,u,x,y,z,()),()))) (aE c) v.1.1 v.1.2.1 v.1.2.2.1 v.2.1 v.2.2.1.1 v.2.2.1.2.1 v.2.2.1.2.2.1 v.2.2.1.2.2.2.1 v.2.2.1.2.2.2.2.1
theorem aC5:dQ ahL 18 ay8 ast:=vS (atD) (h2:=by intros;simp only[atD,aE,abl,cu,cO,bD,bV,cZ])
theorem aG7:dO ahL 18 b18:=pI [ay7,ay8] (aD (fM (aC4)) (aD (fM (aC5)) aN))
theorem apS:eP ahL:=eA f18 (aD au7 aN) (aG7) (hx:=(aD pX (aD kG (aD EQ (aD au8 (aD Lt (aD pY aN)))))))
theorem aes:dK prog 18 auM:=sA apS
end
end Go.Proofs.YtkichehglnecnaaGreatDoor
