/- Parts of the proof, joined and shortened by a program: the plain machine, the functions as it prints them, and the mathematics over them. -/
import Derived.Test.YtlhpdcadgbjhiaaGreatDoorZ3
import Derived.Test.YtlhpdcadgbjhiaaGreatDoorZ4
set_option linter.unusedVariables false
set_option linter.unusedSimpArgs false
set_option maxRecDepth 100000
set_option maxHeartbeats 4000000
namespace Go.Proofs.YtlhpdcadgbjhiaaGreatDoor
section
open Option renaming some → a6, none → a7
open Tryz
open Go.RowKit
def aCd (d:Int):Option qG:=cond (leI 4 d) (a6 ((leI d 12),()))<|some (false,())
def aGR:Sum:=⟨[dC],LG,fun x=>aCd x.1⟩
theorem apV:dR prog 217 aGR:=qA Tryz.f217 [] aN
def ajx (e:bZ):Option Dc:=bJ (Oh e) fun d=>cond (bV d.1 1) (a6 (97,()))<|cond (bV d.1 2) (a6 (111,()))<|cond (bV d.1 3) (a6 (121,()))<|bJ (aCd d.1) fun f=>cond f.1 (a6 (60,()))<|cond (!(bV d.1 0)) (cond (fV e 0) (a6 ((bY e 0),())) a7)<|some (63,())
def aGG:Sum:=⟨[.str],[(.int .u8,false)],fun x=>ajx x.1⟩
theorem apG:dR prog 173 aGG:=qA f173 [] (sE NM (sE apV aN))
def YM (d:bZ):Option Dc:=cond (fP d [100,111]) (a6 (100,()))<|cond (fP d [100,111,110,101]) (a6 (103,()))<|cond (fP d [102,111,114]) (a6 (114,()))<|cond (fP d [105,110]) (a6 (107,()))<|cond (fP d [99,97,115,101]) (a6 (99,()))<|cond (fP d [101,115,97,99]) (a6 (122,()))<|some (120,())
def PN (d:bZ):Option Dc:=cond (fP d [105,102]) (a6 (105,()))<|cond (fP d [116,104,101,110]) (a6 (116,()))<|cond (fP d [101,108,105,102]) (a6 (101,()))<|cond (fP d [101,108,115,101]) (a6 (108,()))<|cond (fP d [102,105]) (a6 (102,()))<|cond (fP d [119,104,105,108,101]) (cond (fP d [119,104,105,108,101]) (a6 (119,()))<|YM d)<|cond (fP d [117,110,116,105,108]) (a6 (119,()))<|YM d
def ajy (d:bZ):Option Dc:=cond (fP d [33]) (cond (fP d [33]) (cond (fV d 0) (a6 ((bY d 0),())) a7)<|PN d)<|cond (fP d [123]) (cond (fP d [123]) (cond (fV d 0) (a6 ((bY d 0),())) a7)<|PN d)<|cond (fP d [125]) (cond (fV d 0) (a6 ((bY d 0),())) a7)<|PN d
def aGH:Sum:=⟨[.str],[(.int .u8,false)],fun x=>ajy x.1⟩
theorem apH:dR prog 174 aGH:=qA f174 [] aN
def Sz (d:gm):Option Dc:=cond (bV d.1 2) (a6 (110,()))<|cond (bV d.1 4) (bJ (ajx d.2.1) fun e=>a6 (e.1,()))<|cond (bV d.1 5) (a6 (35,()))<|cond (bV d.1 6) (bJ (ajy d.2.1) fun e=>a6 (e.1,()))<|some (63,())
def aGz:Sum:=⟨[Vk],[(.int .u8,false)],fun x=>Sz x.1⟩
theorem apw:dR prog 145 aGz:=qA f145 [] (sE apG (sE apH aN))
def xH (d:List gm) (e:Int) (g:List gJ) (i j f:Int):Option (((List gm)×Int×(List gJ)×Int×Int×Unit)×Dc):=cond (leI (bM d) (dw .i64 e f)) (a6 ((d,(e,(g,(i,(j,()))))),(0,())))<|cond (fV d (dw .i64 e f)) (bJ (Sz (dJ d (0,([],(0,(0,())))) (dw .i64 e f))) fun l=>a6 ((d,(e,(g,(i,(j,()))))),(l.1,()))) a7
def aiB:fF:=⟨90,xf,[dC],[.int .u8],fun x y=>xH x.1 x.2.1 x.2.2.1 x.2.2.2.1 x.2.2.2.2.1 y.1⟩
theorem ry:dL prog 103 aiB:=qB [] (sE apw aN)
def WC (e:List gm) (f:Int) (g:List gJ) (i j:Int) (l:bZ):Option taM:=bJ (xH e f g i j 0) fun d=>cond (!(bV d.2.1 0)) (bJ (adB l d.2.1) fun o=>a6 ((d.1.1,(d.1.2.1,(d.1.2.2.1,(d.1.2.2.2.1,(d.1.2.2.2.2.1,()))))),((leI 0 o.1),())))<|some ((d.1.1,(d.1.2.1,(d.1.2.2.1,(d.1.2.2.2.1,(d.1.2.2.2.2.1,()))))),(false,()))
def awK:fF:=⟨90,xf,[.str],[.bool],fun x y=>WC x.1 x.2.1 x.2.2.1 x.2.2.2.1 x.2.2.2.2.1 y.1⟩
theorem NJ:dL prog 102 awK:=qB [] (sE XM aN) (sF ry aN)
def uG (e:List gm) (f:Int) (g:List gJ) (i j:Int) (l:bZ):Option taM:=bJ (WC e f g i j l) fun d=>cond (!d.2.1) (a6 ((d.1.1,(d.1.2.1,(d.1.2.2.1,(d.1.2.2.2.1,(d.1.2.2.2.2.1,()))))),(false,())))<|some ((d.1.1,((dw .i64 d.1.2.1 1),(d.1.2.2.1,(d.1.2.2.2.1,(d.1.2.2.2.2.1,()))))),(true,()))
def EU:fF:=⟨90,xf,[.str],[.bool],fun x y=>uG x.1 x.2.1 x.2.2.1 x.2.2.2.1 x.2.2.2.2.1 y.1⟩
theorem mG:dL prog 69 EU:=qB [] aN (sF NJ aN)
def adC (f:List gm) (g:Int) (i:List gJ) (j l:Int):Option taM:=bJ (xH f g i j l 0) fun d=>cond (bV d.2.1 60) (a6 ((d.1.1,(d.1.2.1,(d.1.2.2.1,(d.1.2.2.2.1,(d.1.2.2.2.2.1,()))))),(true,())))<|cond (bV d.2.1 35) (bJ (xH d.1.1 d.1.2.1 d.1.2.2.1 d.1.2.2.2.1 d.1.2.2.2.2.1 1) fun e=>a6 ((e.1.1,(e.1.2.1,(e.1.2.2.1,(e.1.2.2.2.1,(e.1.2.2.2.2.1,()))))),((bV e.2.1 60),())))<|some ((d.1.1,(d.1.2.1,(d.1.2.2.1,(d.1.2.2.2.1,(d.1.2.2.2.2.1,()))))),(false,()))
def aGA:fF:=⟨90,xf,[],[.bool],fun x y=>adC x.1 x.2.1 x.2.2.1 x.2.2.2.1 x.2.2.2.2.1⟩
theorem XN:dL prog 146 aGA:=qB [] aN (sF ry aN)
def WG (f:List gm) (g:Int) (i:List gJ) (j e:Int):Option taM:=cond (gY e 200) (bJ (WC f g i j e [123,40,105,119,114,99]) fun d=>a6 ((d.1.1,(d.1.2.1,(d.1.2.2.1,(d.1.2.2.2.1,(d.1.2.2.2.2.1,()))))),(d.2.1,())))<|some ((f,(g,(i,(j,(e,()))))),(false,()))
def aiE:fF:=⟨90,xf,[],[.bool],fun x y=>WG x.1 x.2.1 x.2.2.1 x.2.2.2.1 x.2.2.2.2.1⟩
theorem NP:dL prog 147 aiE:=qB [] aN (sF NJ aN)
def adq (g:List gm) (i:Int) (j:List gJ) (l o:Int):Option taM:=bJ (xH g i j l o 0) fun d=>cond (bV d.2.1 120) (a6 ((d.1.1,(d.1.2.1,(d.1.2.2.1,(d.1.2.2.2.1,(d.1.2.2.2.2.1,()))))),(true,())))<|bJ (adC d.1.1 d.1.2.1 d.1.2.2.1 d.1.2.2.2.1 d.1.2.2.2.2.1) fun e=>cond e.2.1 (a6 ((e.1.1,(e.1.2.1,(e.1.2.2.1,(e.1.2.2.2.1,(e.1.2.2.2.2.1,()))))),(true,())))<|bJ (WG e.1.1 e.1.2.1 e.1.2.2.1 e.1.2.2.2.1 e.1.2.2.2.2.1) fun f=>a6 ((f.1.1,(f.1.2.1,(f.1.2.2.1,(f.1.2.2.2.1,(f.1.2.2.2.2.1,()))))),(f.2.1,()))
def awL:fF:=⟨90,xf,[],[.bool],fun x y=>adq x.1 x.2.1 x.2.2.1 x.2.2.2.1 x.2.2.2.2.1⟩
theorem XH:dL prog 104 awL:=qB [] aN (sF ry (sF XN (sF NP aN)))
def Vw (f:List gm) (g:Int) (i:List gJ) (j l:Int):Option taM:=bJ (xH f g i j l 0) fun d=>cond (bV d.2.1 33) (a6 ((d.1.1,(d.1.2.1,(d.1.2.2.1,(d.1.2.2.2.1,(d.1.2.2.2.2.1,()))))),(true,())))<|bJ (adq d.1.1 d.1.2.1 d.1.2.2.1 d.1.2.2.2.1 d.1.2.2.2.2.1) fun e=>a6 ((e.1.1,(e.1.2.1,(e.1.2.2.1,(e.1.2.2.2.1,(e.1.2.2.2.2.1,()))))),(e.2.1,()))
def X0:fF:=⟨90,xf,[],[.bool],fun x y=>Vw x.1 x.2.1 x.2.2.1 x.2.2.2.1 x.2.2.2.2.1⟩
theorem EW:dL prog 70 X0:=qB [] aN (sF ry (sF XH aN))
noncomputable def aDB:Code:=(f106.body).getD .skip
noncomputable def aqL:Code:=cA (cA (cA (cB (cB (aDB)))))
def Za:eQ:=⟨[0,3,100002],[],[3],[],[2],[]⟩
def ZM:SQ:=⟨[co,.u,.u,b9,.u,.u,.u,.u,.u],c6,dg⟩
def aaz:SQ:=⟨[.u,.u,.u,b9,.u,.u,.u,.u,.u],c6,dg⟩
def abb:SQ:=⟨us [.u,.u,b9] 6,c6,[]⟩
def Qr {e:Type} (g i:Bool->(List gm)->Int->Int->Int->(List gJ)->Option e) (s:Bool->Option e) (f:Bool) (j:List gm) (l o p:Int) (q:List gJ):Option e:=bJ (uG j l q o p [110]) fun d=>cond d.2.1 (g f d.1.1 d.1.2.1 d.1.2.2.2.1 d.1.2.2.2.2.1 d.1.2.2.1)<|i f d.1.1 d.1.2.1 d.1.2.2.2.1 d.1.2.2.2.2.1 d.1.2.2.1
def JX:Nat->Bool->(List gm)->Int->Int->Int->(List gJ)->Option (aaz.den⊕abb.den)
 |0,_,_,_,_,_,_=>a7
 |n+1,d,e,f,g,i,j=>Qr (JX n) (fun l o p q s u=>a6 (.inl ((l,()),((),()),((o,p,q,s,()),u,())))) (fun v=>a6 (.inr ((v,()),((),()),()))) d e f g i j
def azG (n:Nat) (v:ZM.den):=bk (JX n) v
noncomputable def akh:dE:=fG Za ZM aaz abb (.exit 0) (azG bQ) 6
def tH (f:List gm) (g:Int) (i:List gJ) (j l:Int):Option taM:=bJ (uG f g i j l [110]) fun d=>bJ (JX bQ d.2.1 d.1.1 d.1.2.1 d.1.2.2.2.1 d.1.2.2.2.2.1 d.1.2.2.1) fun o=>dW o (fun e=>a6 ((e.2.2.1.1,(e.2.2.1.2.1,(e.2.2.2.1,(e.2.2.1.2.2.1,(e.2.2.1.2.2.2.1,()))))),(e.1.1,()))) (fun p=>a7)
def C9:fF:=⟨90,xf,[],[.bool],fun x y=>tH x.1 x.2.1 x.2.2.1 x.2.2.2.1 x.2.2.2.2.1⟩
noncomputable def agp:Env:=gz prog tt [] [(106,2,Za)] [(106,2,akh)] [] [(69,EU)]
def alH {d:Type} (a:ZM.den->Option d) (b:aaz.den->Option d) (c:abb.den->Option d) (v:ZM.den):Option d:=bk (Qr (bj a) (bj b) (fun e=>c ((e,()),((),()),()))) v
theorem aAx:dV agp 106 aqL akh:=lg (alH) (h2:=by intros;simp only[alH,bj,bk,Qr,dh,di,bI,cZ,dm])
theorem aEz:dO agp 106 aDB:=nM [aqL] (aD (fM (aAx)) aN)
theorem anf:eF agp:=eB aN [106] (aD ⟨f106,aDB,by kernel_rfl,by kernel_rfl,aEz⟩ aN) (hx:=(aD mG aN))
theorem pW:dL prog 106 C9:=sB anf
def jR:eQ:=⟨[0,2,6,7],[],[],[],[],[]⟩
def zQ (g:List gm) (d:Int) (f:List gJ) (e i:Int):Option sD:=cond (bV 18 18) (cond (bV d d) (cond (bV e e) (cond (dY (bT f [(18,(d,(0,(e,()))))]) 32) (cond (bV 18 18) (cond (bV d d) (cond (bV e e) (cond ((bV 18 18)&&((bV d d)&&((bV 0 0)&&((bV e e)&&true)))) (cond (fV (bT f [(18,(d,(0,(e,()))))]) (bM f)) (cond (mi (dD (bM f)) (bT f [(18,(d,(0,(e,()))))])) (a6 ((g,(d,((iw (bT f [(18,(d,(0,(e,()))))]) (dD (bM f)) ((dK (bT f [(18,(d,(0,(e,()))))]) (0,(0,(0,(0,())))) (dD (bM f))).1,((dK (bT f [(18,(d,(0,(e,()))))]) (0,(0,(0,(0,())))) (dD (bM f))).2.1,(d,((dK (bT f [(18,(d,(0,(e,()))))]) (0,(0,(0,(0,())))) (dD (bM f))).2.2.2.1,()))))),(e,(i,()))))),())) a7) a7) a7) a7) a7) a7) a7) a7) a7) a7
def NT:fF:=⟨90,xf,[],[],fun x y=>zQ x.1 x.2.1 x.2.2.1 x.2.2.2.1 x.2.2.2.2.1⟩
theorem rC:dL prog 175 NT:=qB [(175,600000,uI),(41,600003,jR)] aN
def agZ (d:bZ):Option qG:=cond (!(fP d [])) (bJ (ag5 d 0) fun e=>a6 ((bV e.1 (bM d)),()))<|some (false,())
def axQ:Sum:=⟨[.str],LG,fun x=>agZ x.1⟩
theorem U4:dR prog 60 axQ:=qA f60 [] (sE U6 aN)
def ajC (f:List gm) (g:Int) (i:List gJ) (j l:Int):Option taM:=bJ (xH f g i j l 0) fun e=>cond (bV e.2.1 120) (bJ (xH e.1.1 e.1.2.1 e.1.2.2.1 e.1.2.2.2.1 e.1.2.2.2.2.1 1) fun d=>cond (bV d.2.1 40) (cond (gY d.1.2.2.2.2.1 200) (cond (fV d.1.1 d.1.2.1) (bJ (agZ (dJ d.1.1 (0,([],(0,(0,())))) d.1.2.1).2.1) fun o=>a6 ((d.1.1,(d.1.2.1,(d.1.2.2.1,(d.1.2.2.2.1,(d.1.2.2.2.2.1,()))))),(o.1,()))) a7)<|some ((d.1.1,(d.1.2.1,(d.1.2.2.1,(d.1.2.2.2.1,(d.1.2.2.2.2.1,()))))),(false,())))<|some ((d.1.1,(d.1.2.1,(d.1.2.2.1,(d.1.2.2.2.1,(d.1.2.2.2.2.1,()))))),(false,())))<|some ((e.1.1,(e.1.2.1,(e.1.2.2.1,(e.1.2.2.2.1,(e.1.2.2.2.2.1,()))))),(false,()))
def axn:fF:=⟨90,xf,[],[.bool],fun x y=>ajC x.1 x.2.1 x.2.2.1 x.2.2.2.1 x.2.2.2.2.1⟩
theorem apW:dL prog 220 axn:=qB [] (sE U4 aN) (sF ry aN)
def aEp:eQ:=⟨[1,2],[],[],[],[],[]⟩
def SI (i:List gm) (d:Int) (f:List gJ) (e j g:Int):Option sD:=cond (bV g g) (cond (bV d d) (cond (bV e e) (cond (dY (bT f [(g,(d,(0,(e,()))))]) 32) (cond (bV g g) (cond (bV d d) (cond (bV e e) (cond ((bV g g)&&((bV d d)&&((bV 0 0)&&((bV e e)&&true)))) (cond (fV (bT f [(g,(d,(0,(e,()))))]) (bM f)) (cond (mi (dD (bM f)) (bT f [(g,(d,(0,(e,()))))])) (a6 ((i,((dw .i64 d 1),((iw (bT f [(g,(d,(0,(e,()))))]) (dD (bM f)) ((dK (bT f [(g,(d,(0,(e,()))))]) (0,(0,(0,(0,())))) (dD (bM f))).1,((dK (bT f [(g,(d,(0,(e,()))))]) (0,(0,(0,(0,())))) (dD (bM f))).2.1,((dw .i64 d 1),((dK (bT f [(g,(d,(0,(e,()))))]) (0,(0,(0,(0,())))) (dD (bM f))).2.2.2.1,()))))),(e,(j,()))))),())) a7) a7) a7) a7) a7) a7) a7) a7) a7) a7
def amS:fF:=⟨90,xf,[dC],[],fun x y=>SI x.1 x.2.1 x.2.2.1 x.2.2.2.1 x.2.2.2.2.1 y.1⟩
theorem Lu:dL prog 72 amS:=qB [(72,600001,aEp),(41,600003,jR)] aN
def Oo (d:List gm) (e:Int) (f:List gJ) (g i:Int):Option taM:=cond (gY e (bM d)) (cond (fV d e) (a6 ((d,(e,(f,(g,(i,()))))),((bV (dJ d (0,([],(0,(0,())))) e).1 6),()))) a7)<|some ((d,(e,(f,(g,(i,()))))),(false,()))
def acK:fF:=⟨90,xf,[],[.bool],fun x y=>Oo x.1 x.2.1 x.2.2.1 x.2.2.2.1 x.2.2.2.2.1⟩
theorem Gz:dL prog 261 acK:=qB [] aN
def Om (f:List gm) (g:Int) (i:List gJ) (j l:Int):Option sD:=bJ (Oo f g i j l) fun d=>cond d.2.1 (bJ (SI d.1.1 d.1.2.1 d.1.2.2.1 d.1.2.2.2.1 d.1.2.2.2.2.1 7) fun e=>a6 ((e.1.1,(e.1.2.1,(e.1.2.2.1,(e.1.2.2.2.1,(e.1.2.2.2.2.1,()))))),()))<|bJ (zQ d.1.1 d.1.2.1 d.1.2.2.1 d.1.2.2.2.1 d.1.2.2.2.2.1) fun e=>a6 ((e.1.1,(e.1.2.1,(e.1.2.2.1,(e.1.2.2.2.1,(e.1.2.2.2.2.1,()))))),())
def acJ:fF:=⟨90,xf,[],[],fun x y=>Om x.1 x.2.1 x.2.2.1 x.2.2.2.1 x.2.2.2.2.1⟩
theorem Gy:dL prog 259 acJ:=qB [] aN (sF Lu (sF rC (sF Gz aN)))
def aj8:eQ:=⟨[1],[],[],[],[],[]⟩
def Dj (i:List gm) (j:Int) (l:List gJ) (o p:Int):Option taM:=bJ (adC i j l o p) fun d=>cond (!d.2.1) (a6 ((d.1.1,(d.1.2.1,(d.1.2.2.1,(d.1.2.2.2.1,(d.1.2.2.2.2.1,()))))),(false,())))<|cond (bV 8 8) (cond (bV d.1.2.1 d.1.2.1) (cond (bV d.1.2.2.2.1 d.1.2.2.2.1) (cond (dY (bT d.1.2.2.1 [(8,(d.1.2.1,(0,(d.1.2.2.2.1,()))))]) 32) (cond (bV 8 8) (cond (bV d.1.2.1 d.1.2.1) (cond (bV d.1.2.2.2.1 d.1.2.2.2.1) (cond ((bV 8 8)&&((bV d.1.2.1 d.1.2.1)&&((bV 0 0)&&((bV d.1.2.2.2.1 d.1.2.2.2.1)&&true)))) (bJ (uG d.1.1 d.1.2.1 (bT d.1.2.2.1 [(8,(d.1.2.1,(0,(d.1.2.2.2.1,()))))]) (bM d.1.2.2.1) d.1.2.2.2.2.1 [35]) fun f=>bJ (uG f.1.1 f.1.2.1 f.1.2.2.1 f.1.2.2.2.1 f.1.2.2.2.2.1 [60]) fun g=>bJ (Om g.1.1 g.1.2.1 g.1.2.2.1 g.1.2.2.2.1 g.1.2.2.2.2.1) fun e=>cond (fV e.1.2.2.1 (bM d.1.2.2.1)) (cond (mi (dD (bM d.1.2.2.1)) e.1.2.2.1) (a6 ((e.1.1,(e.1.2.1,((iw e.1.2.2.1 (dD (bM d.1.2.2.1)) ((dK e.1.2.2.1 (0,(0,(0,(0,())))) (dD (bM d.1.2.2.1))).1,((dK e.1.2.2.1 (0,(0,(0,(0,())))) (dD (bM d.1.2.2.1))).2.1,(e.1.2.1,((dK e.1.2.2.1 (0,(0,(0,(0,())))) (dD (bM d.1.2.2.1))).2.2.2.1,()))))),(d.1.2.2.2.1,(e.1.2.2.2.2.1,()))))),(true,()))) a7) a7) a7) a7) a7) a7) a7) a7) a7) a7
def aiH:fF:=⟨90,xf,[],[.bool],fun x y=>Dj x.1 x.2.1 x.2.2.1 x.2.2.2.1 x.2.2.2.2.1⟩
theorem XX:dL prog 258 aiH:=qB [(258,600003,aj8),(41,600003,jR)] aN (sF mG (sF XN (sF Gy aN)))
def ajO (d:bZ):Option (bZ×bZ×Bool×Unit):=bJ (ag5 d 0) fun e=>cond (bV e.1 0) (a6 ([],([],(false,()))))<|cond (bV e.1 (bM d)) (a6 ([],([],(false,()))))<|cond (fV d e.1) (cond (!(bV (bY d e.1) 61)) (a6 ([],([],(false,()))))<|cond (fH (bM d) 0 e.1) (cond (fH (bM d) (dw .i64 e.1 1) (bM d)) (a6 ((sub d 0 e.1),((sub d (dw .i64 e.1 1) (bM d)),(true,())))) a7) a7) a7
def aHg:Sum:=⟨[.str],[(.str,false),(.str,false),(.bool,false)],fun x=>ajO x.1⟩
theorem aqc:dR prog 272 aHg:=qA f272 [] (sE U6 aN)
def ajM (d:bZ):Option qG:=bJ (ajO d) fun e=>a6 (e.2.2.1,())
def axz:Sum:=⟨[.str],LG,fun x=>ajM x.1⟩
theorem ap9:dR prog 262 axz:=qA f262 [] (sE aqc aN)
noncomputable def aDI:Code:=(f223.body).getD .skip
noncomputable def ara:Code:=cA (cA (cB (cB (cA (aDI)))))
def aug:eQ:=⟨[0,2,100003],[],[],[],[],[]⟩
def aaj:SQ:=⟨us [co,.u,b9] 28,c6,dg⟩
def aaV:SQ:=⟨us [] 31,c6,dg⟩
def abA:SQ:=⟨us [] 31,c6,[]⟩
def Gt {i:Type} (j:Bool->(List gm)->Int->Int->Int->(List gJ)->Option i) (o:(List gm)->Int->Int->Int->(List gJ)->Option i) (x:Option i) (l:Bool) (p:List gm) (q s u:Int) (v:List gJ):Option i:=bJ (Dj p q v s u) fun e=>cond e.2.1 (j l e.1.1 e.1.2.1 e.1.2.2.2.1 e.1.2.2.2.2.1 e.1.2.2.1)<|bJ (Oo e.1.1 e.1.2.1 e.1.2.2.1 e.1.2.2.2.1 e.1.2.2.2.2.1) fun d=>cond (!d.2.1) (o d.1.1 d.1.2.1 d.1.2.2.2.1 d.1.2.2.2.2.1 d.1.2.2.1)<|cond (!l) (cond (fV d.1.1 d.1.2.1) (bJ (ajM (dJ d.1.1 (0,([],(0,(0,())))) d.1.2.1).2.1) fun g=>cond g.1 (bJ (SI d.1.1 d.1.2.1 d.1.2.2.1 d.1.2.2.2.1 d.1.2.2.2.2.1 6) fun f=>j l f.1.1 f.1.2.1 f.1.2.2.2.1 f.1.2.2.2.2.1 f.1.2.2.1)<|bJ (SI d.1.1 d.1.2.1 d.1.2.2.1 d.1.2.2.2.1 d.1.2.2.2.2.1 7) fun f=>j true f.1.1 f.1.2.1 f.1.2.2.2.1 f.1.2.2.2.2.1 f.1.2.2.1) a7)<|bJ (SI d.1.1 d.1.2.1 d.1.2.2.1 d.1.2.2.2.1 d.1.2.2.2.2.1 7) fun g=>j true g.1.1 g.1.2.1 g.1.2.2.2.1 g.1.2.2.2.2.1 g.1.2.2.1
def rM:Nat->Bool->(List gm)->Int->Int->Int->(List gJ)->Option (aaV.den⊕abA.den)
 |0,_,_,_,_,_,_=>a7
 |n+1,d,e,f,g,i,j=>Gt (rM n) (fun l o p q s=>a6 (.inl ((),((),()),((l,o,p,q,()),s,())))) (a6 (.inr ((),((),()),()))) d e f g i j
def az6 (n:Nat) (v:aaj.den):=bk (rM n) v
noncomputable def akG:dE:=fG aug aaj aaV abA (.exit 0) (az6 bQ) 6
def adI (e:List gm) (f:Int) (g:List gJ) (i j:Int):Option sD:=bJ (rM bQ false e f i j g) fun l=>dW l (fun d=>a6 ((d.2.2.1.1,(d.2.2.1.2.1,(d.2.2.2.1,(d.2.2.1.2.2.1,(d.2.2.1.2.2.2.1,()))))),())) (fun o=>a7)
def axo:fF:=⟨90,xf,[],[],fun x y=>adI x.1 x.2.1 x.2.2.1 x.2.2.2.1 x.2.2.2.2.1⟩
noncomputable def agJ:Env:=gz prog tt [(262,axz)] [(223,3,aug)] [(223,3,akG)] [] [(72,amS),(258,aiH),(261,acK)]
def al7 {d:Type} (a:aaj.den->Option d) (b:aaV.den->Option d) (c:abA.den->Option d) (v:aaj.den):Option d:=bk (Gt (bj a) (bl b) (c ((),((),()),()))) v
theorem aAX:dV agJ 223 ara akG:=lg (al7) (h2:=by intros;simp only[al7,bj,bl,bk,Gt,dh,di,bI,cZ,dm])
theorem aE0:dO agJ 223 aDI:=nM [ara] (aD (fM (aAX)) aN)
theorem anN:eF agJ:=eB (aD ap9 aN) [223] (aD ⟨f223,aDI,by kernel_rfl,by kernel_rfl,aE0⟩ aN) (hx:=(aD Lu (aD XX (aD Gz aN))))
theorem apX:dL prog 223 axo:=sB anN
def wJ (f:List gm) (g:Int) (i:List gJ) (j l:Int) (o:bZ):Option sD:=bJ (uG f g i j l o) fun d=>cond (!d.2.1) (bJ (zQ d.1.1 d.1.2.1 d.1.2.2.1 d.1.2.2.2.1 d.1.2.2.2.2.1) fun e=>a6 ((e.1.1,(e.1.2.1,(e.1.2.2.1,(e.1.2.2.2.1,(e.1.2.2.2.2.1,()))))),()))<|some ((d.1.1,(d.1.2.1,(d.1.2.2.1,(d.1.2.2.2.1,(d.1.2.2.2.2.1,()))))),())
def EP:fF:=⟨90,xf,[.str],[],fun x y=>wJ x.1 x.2.1 x.2.2.1 x.2.2.2.1 x.2.2.2.2.1 y.1⟩
theorem rD:dL prog 260 EP:=qB [] aN (sF mG (sF rC aN))
structure iI where
 q71:(List gm)->Int->(List gJ)->Int->Int->Option sD
 q105:(List gm)->Int->(List gJ)->Int->Int->Option sD
 q148:(List gm)->Int->(List gJ)->Int->Int->Option sD
 q177:(List gm)->Int->(List gJ)->Int->Int->Option sD
 q222:(List gm)->Int->(List gJ)->Int->Int->Option sD
 q219:(List gm)->Int->(List gJ)->Int->Int->Option sD
 q268:(List gm)->Int->(List gJ)->Int->Int->Option sD
 q251:(List gm)->Int->(List gJ)->Int->Int->Option sD
 q252:(List gm)->Int->(List gJ)->Int->Int->Option sD
 q253:(List gm)->Int->(List gJ)->Int->Int->Option sD
 q254:(List gm)->Int->(List gJ)->Int->Int->Option sD
 q255:(List gm)->Int->(List gJ)->Int->Int->Option sD
 q256:(List gm)->Int->(List gJ)->Int->Int->Option sD
 q270:(List gm)->Int->(List gJ)->Int->Int->Option sD
 q269:(List gm)->Int->(List gJ)->Int->Int->Option sD
def aiJ (q:iI):fF:=⟨90,xf,[],[],fun x y=>q.q71 x.1 x.2.1 x.2.2.1 x.2.2.2.1 x.2.2.2.2.1⟩
def amA (q:iI):fF:=⟨90,xf,[],[],fun x y=>q.q105 x.1 x.2.1 x.2.2.1 x.2.2.2.1 x.2.2.2.2.1⟩
def amC (q:iI):fF:=⟨90,xf,[],[],fun x y=>q.q148 x.1 x.2.1 x.2.2.1 x.2.2.2.1 x.2.2.2.2.1⟩
def amE (q:iI):fF:=⟨90,xf,[],[],fun x y=>q.q177 x.1 x.2.1 x.2.2.1 x.2.2.2.1 x.2.2.2.2.1⟩
def amG (q:iI):fF:=⟨90,xf,[],[],fun x y=>q.q222 x.1 x.2.1 x.2.2.1 x.2.2.2.1 x.2.2.2.2.1⟩
def acG (q:iI):fF:=⟨90,xf,[],[],fun x y=>q.q219 x.1 x.2.1 x.2.2.1 x.2.2.2.1 x.2.2.2.2.1⟩
def GG (q:iI):fF:=⟨90,xf,[],[],fun x y=>q.q268 x.1 x.2.1 x.2.2.1 x.2.2.2.1 x.2.2.2.2.1⟩
def amJ (q:iI):fF:=⟨90,xf,[],[],fun x y=>q.q251 x.1 x.2.1 x.2.2.1 x.2.2.2.1 x.2.2.2.2.1⟩
def amK (q:iI):fF:=⟨90,xf,[],[],fun x y=>q.q252 x.1 x.2.1 x.2.2.1 x.2.2.2.1 x.2.2.2.2.1⟩
def amL (q:iI):fF:=⟨90,xf,[],[],fun x y=>q.q253 x.1 x.2.1 x.2.2.1 x.2.2.2.1 x.2.2.2.2.1⟩
def amM (q:iI):fF:=⟨90,xf,[],[],fun x y=>q.q254 x.1 x.2.1 x.2.2.1 x.2.2.2.1 x.2.2.2.2.1⟩
def amN (q:iI):fF:=⟨90,xf,[],[],fun x y=>q.q255 x.1 x.2.1 x.2.2.1 x.2.2.2.1 x.2.2.2.2.1⟩
def amO (q:iI):fF:=⟨90,xf,[],[],fun x y=>q.q256 x.1 x.2.1 x.2.2.1 x.2.2.2.1 x.2.2.2.2.1⟩
def amP (q:iI):fF:=⟨90,xf,[],[],fun x y=>q.q270 x.1 x.2.1 x.2.2.1 x.2.2.2.1 x.2.2.2.2.1⟩
def acL (q:iI):fF:=⟨90,xf,[],[],fun x y=>q.q269 x.1 x.2.1 x.2.2.1 x.2.2.2.1 x.2.2.2.2.1⟩
noncomputable def b71:Code:=(f71.body).getD .skip
noncomputable def aB3:Code:=cA (cA (cB (cA (b71))))
def aCu:eQ:=⟨[0,100000],[],[],[],[],[]⟩
def alk:SQ:=⟨us bN 15,c6,dg⟩
def ahW:SQ:=⟨us [] 16,c6,dg⟩
def aih:SQ:=⟨us [] 16,c6,[]⟩
def UV (q:iI) {o:Type} (s p:(List gm)->Int->Int->Int->(List gJ)->Option o) (x:Option o) (u:List gm) (i j v:Int) (l:List gJ):Option o:=cond (bV 3 3) (cond (bV i i) (cond (bV j j) (cond (dY (bT l [(3,(i,(0,(j,()))))]) 32) (cond (bV 3 3) (cond (bV i i) (cond (bV j j) (cond ((bV 3 3)&&((bV i i)&&((bV 0 0)&&((bV j j)&&true)))) (bJ (q.q105 u i (bT l [(3,(i,(0,(j,()))))]) (bM l) v) fun g=>cond (fV g.1.2.2.1 (bM l)) (cond (mi (dD (bM l)) g.1.2.2.1) (bJ (uG g.1.1 g.1.2.1 (iw g.1.2.2.1 (dD (bM l)) ((dK g.1.2.2.1 (0,(0,(0,(0,())))) (dD (bM l))).1,((dK g.1.2.2.1 (0,(0,(0,(0,())))) (dD (bM l))).2.1,(g.1.2.1,((dK g.1.2.2.1 (0,(0,(0,(0,())))) (dD (bM l))).2.2.2.1,()))))) j g.1.2.2.2.2.1 [59,38]) fun f=>cond f.2.1 (bJ (tH f.1.1 f.1.2.1 f.1.2.2.1 f.1.2.2.2.1 f.1.2.2.2.2.1) fun e=>bJ (Vw e.1.1 e.1.2.1 e.1.2.2.1 e.1.2.2.2.1 e.1.2.2.2.2.1) fun d=>cond (!d.2.1) (p d.1.1 d.1.2.1 d.1.2.2.2.1 d.1.2.2.2.2.1 d.1.2.2.1)<|s d.1.1 d.1.2.1 d.1.2.2.2.1 d.1.2.2.2.2.1 d.1.2.2.1)<|bJ (tH f.1.1 f.1.2.1 f.1.2.2.1 f.1.2.2.2.1 f.1.2.2.2.2.1) fun e=>cond (!e.2.1) (p e.1.1 e.1.2.1 e.1.2.2.2.1 e.1.2.2.2.2.1 e.1.2.2.1)<|bJ (Vw e.1.1 e.1.2.1 e.1.2.2.1 e.1.2.2.2.1 e.1.2.2.2.2.1) fun d=>cond (!d.2.1) (p d.1.1 d.1.2.1 d.1.2.2.2.1 d.1.2.2.2.2.1 d.1.2.2.1)<|s d.1.1 d.1.2.1 d.1.2.2.2.1 d.1.2.2.2.2.1 d.1.2.2.1) a7) a7) a7) a7) a7) a7) a7) a7) a7) a7
def yM (q:iI):Nat->(List gm)->Int->Int->Int->(List gJ)->Option (ahW.den⊕aih.den)
 |0,_,_,_,_,_=>a7
 |n+1,d,e,f,g,i=>UV q (yM q n) (fun j l o p s=>a6 (.inl ((),((),()),((j,l,o,p,()),s,())))) (a6 (.inr ((),((),()),()))) d e f g i
def aFu (q:iI) (n:Nat) (v:alk.den):=bm (yM q n) v
noncomputable def au8 (q:iI):dE:=fG aCu alk ahW aih (.exit 0) (aFu q bQ) 6
def as6 (q:iI) (e:List gm) (f:Int) (g:List gJ) (i j:Int):Option sD:=bJ (yM q bQ e f i j g) fun l=>dW l (fun d=>a6 ((d.2.2.1.1,(d.2.2.1.2.1,(d.2.2.2.1,(d.2.2.1.2.2.1,(d.2.2.1.2.2.2.1,()))))),())) (fun o=>a7)
noncomputable def asz (q:iI):Env:=gz prog tt [] [(71,0,aCu),(71,600000,uI),(41,600003,jR)] [(71,0,au8 q)] [] [(69,EU),(70,X0),(105,amA q),(106,C9)]
def awf (q:iI) {d:Type} (a:alk.den->Option d) (b:ahW.den->Option d) (c:aih.den->Option d) (v:alk.den):Option d:=bm (UV q (bl a) (bl b) (c ((),((),()),()))) v
theorem aFY (q:iI):dV (asz q) 71 aB3 (au8 q):=lg (awf q) (h2:=by intros;simp only[awf,bl,bm,UV,dh,di,bI,cZ,dm])
theorem aJ4 (q:iI):dO (asz q) 71 b71:=nM [aB3] (aD (fM (aFY q)) aN)
abbrev H71 (q:iI):Prop:=dL prog 71 (aiJ q)/\dL prog 105 (amA q)/\dL prog 148 (amC q)/\dL prog 177 (amE q)/\dL prog 222 (amG q)/\dL prog 219 (acG q)/\dL prog 268 (GG q)/\dL prog 251 (amJ q)/\dL prog 252 (amK q)/\dL prog 253 (amL q)/\dL prog 254 (amM q)/\dL prog 255 (amN q)/\dL prog 256 (amO q)/\dL prog 270 (amP q)/\dL prog 269 (acL q)
theorem asA (q:iI) (H:H71 q):eF (asz q):=eB aN [71] (aD ⟨f71,b71,by kernel_rfl,by kernel_rfl,aJ4 q⟩ aN) (hx:=(aD mG (aD EW (aD H.2.1 (aD pW aN)))))
noncomputable def aDA:Code:=(f105.body).getD .skip
noncomputable def aqK:Code:=cA (cA (cB (aDA)))
def atN:eQ:=⟨[0,100001],[],[],[],[],[]⟩
def ZL:SQ:=⟨us bN 9,c6,dg⟩
def aay:SQ:=⟨us [] 10,c6,dg⟩
def aba:SQ:=⟨us [] 10,c6,[]⟩
def La (q:iI) {g:Type} (i j:(List gm)->Int->Int->Int->(List gJ)->Option g) (v:Option g) (l:List gm) (o p s:Int) (u:List gJ):Option g:=bJ (uG l o u p s [97,111]) fun d=>cond d.2.1 (bJ (tH d.1.1 d.1.2.1 d.1.2.2.1 d.1.2.2.2.1 d.1.2.2.2.2.1) fun e=>bJ (q.q148 e.1.1 e.1.2.1 e.1.2.2.1 e.1.2.2.2.1 e.1.2.2.2.2.1) fun f=>i f.1.1 f.1.2.1 f.1.2.2.2.1 f.1.2.2.2.2.1 f.1.2.2.1)<|j d.1.1 d.1.2.1 d.1.2.2.2.1 d.1.2.2.2.2.1 d.1.2.2.1
def BK (q:iI):Nat->(List gm)->Int->Int->Int->(List gJ)->Option (aay.den⊕aba.den)
 |0,_,_,_,_,_=>a7
 |n+1,d,e,f,g,i=>La q (BK q n) (fun j l o p s=>a6 (.inl ((),((),()),((j,l,o,p,()),s,())))) (a6 (.inr ((),((),()),()))) d e f g i
def azF (q:iI) (n:Nat) (v:ZL.den):=bm (BK q n) v
noncomputable def akg (q:iI):dE:=fG atN ZL aay aba (.exit 0) (azF q bQ) 6
def adn (q:iI) (f:List gm) (g:Int) (i:List gJ) (j l:Int):Option sD:=bJ (q.q148 f g i j l) fun d=>bJ (BK q bQ d.1.1 d.1.2.1 d.1.2.2.2.1 d.1.2.2.2.2.1 d.1.2.2.1) fun o=>dW o (fun e=>a6 ((e.2.2.1.1,(e.2.2.1.2.1,(e.2.2.2.1,(e.2.2.1.2.2.1,(e.2.2.1.2.2.2.1,()))))),())) (fun p=>a7)
noncomputable def agn (q:iI):Env:=gz prog tt [] [(105,1,atN)] [(105,1,akg q)] [] [(69,EU),(106,C9),(148,amC q)]
def alG (q:iI) {d:Type} (a:ZL.den->Option d) (b:aay.den->Option d) (c:aba.den->Option d) (v:ZL.den):Option d:=bm (La q (bl a) (bl b) (c ((),((),()),()))) v
theorem aAw (q:iI):dV (agn q) 105 aqK (akg q):=lg (alG q) (h2:=by intros;simp only[alG,bl,bm,La,dh,di,bI,cZ,dm])
theorem aEy (q:iI):dO (agn q) 105 aDA:=nM [aqK] (aD (fM (aAw q)) aN)
theorem ane (q:iI) (H:H71 q):eF (agn q):=eB aN [105] (aD ⟨f105,aDA,by kernel_rfl,by kernel_rfl,aEy q⟩ aN) (hx:=(aD mG (aD pW (aD H.2.2.1 aN))))
noncomputable def Rj:Code:=(f176.body).getD .skip
noncomputable def Rz:Code:=cA (cA (cB (cB (Rj))))
def Tj:eQ:=⟨[0,177000002],[],[],[],[],[]⟩
def Cj:SQ:=⟨us [cJ] 10,b8,[cr,bL,cx]⟩
def Ep:SQ:=⟨us [] 11,b8,[cr,bL,cx]⟩
def Ez:SQ:=⟨us [] 11,b8,[]⟩
def uh (q:iI) {g:Type} (l o:Int->Int->(List gm)->Int->Int->Int->(List gJ)->Option g) (y:Int->Int->Option g) (i j:Int) (p:List gm) (s u v:Int) (x:List gJ):Option g:=bJ (uG p s x u v [124]) fun d=>cond d.2.1 (bJ (tH d.1.1 d.1.2.1 d.1.2.2.1 d.1.2.2.2.1 d.1.2.2.2.2.1) fun e=>bJ (q.q177 e.1.1 e.1.2.1 e.1.2.2.1 e.1.2.2.2.1 e.1.2.2.2.2.1) fun f=>l i j f.1.1 f.1.2.1 f.1.2.2.2.1 f.1.2.2.2.2.1 f.1.2.2.1)<|o i j d.1.1 d.1.2.1 d.1.2.2.2.1 d.1.2.2.2.2.1 d.1.2.2.1
def nH (q:iI):Nat->Int->Int->(List gm)->Int->Int->Int->(List gJ)->Option (Ep.den⊕Ez.den)
 |0,_,_,_,_,_,_,_=>a7
 |n+1,d,e,f,g,i,j,l=>uh q (nH q n) (fun o p s u v x y=>a6 (.inl ((),((o,p,()),(),(),()),((),(s,u,v,x,()),y,())))) (fun z A=>a6 (.inr ((),((z,A,()),(),(),()),()))) d e f g i j l
def aex (q:iI) (n:Nat) (v:Cj.den):=nH q n v.2.1.1.1 v.2.1.1.2.1 v.2.2.2.1.1 v.2.2.2.1.2.1 v.2.2.2.1.2.2.1 v.2.2.2.1.2.2.2.1 v.2.2.2.2.1
noncomputable def OI (q:iI):dE:=fG Tj Cj Ep Ez (.exit 0) (aex q bQ) 6
def RZ (q:iI) (i:List gm) (j:Int) (l:List gJ) (o p:Int):Option sD:=bJ (Vw i j l o p) fun d=>cond (!d.2.1) (bJ (zQ d.1.1 d.1.2.1 d.1.2.2.1 d.1.2.2.2.1 d.1.2.2.2.2.1) fun f=>a6 ((f.1.1,(f.1.2.1,(f.1.2.2.1,(f.1.2.2.2.1,(f.1.2.2.2.2.1,()))))),()))<|cond (bV 4 4) (cond (bV d.1.2.1 d.1.2.1) (cond (bV d.1.2.2.2.1 d.1.2.2.2.1) (cond (dY (bT d.1.2.2.1 [(4,(d.1.2.1,(0,(d.1.2.2.2.1,()))))]) 32) (cond (bV 4 4) (cond (bV d.1.2.1 d.1.2.1) (cond (bV d.1.2.2.2.1 d.1.2.2.2.1) (cond ((bV 4 4)&&((bV d.1.2.1 d.1.2.1)&&((bV 0 0)&&((bV d.1.2.2.2.1 d.1.2.2.2.1)&&true)))) (bJ (uG d.1.1 d.1.2.1 (bT d.1.2.2.1 [(4,(d.1.2.1,(0,(d.1.2.2.2.1,()))))]) (bM d.1.2.2.1) d.1.2.2.2.2.1 [33]) fun f=>bJ (q.q177 f.1.1 f.1.2.1 f.1.2.2.1 f.1.2.2.2.1 f.1.2.2.2.2.1) fun g=>bJ (nH q bQ (bM d.1.2.2.1) d.1.2.2.2.1 g.1.1 g.1.2.1 g.1.2.2.2.1 g.1.2.2.2.2.1 g.1.2.2.1) fun s=>dW s (fun e=>cond (fV e.2.2.2.2.1 e.2.1.1.1) (cond (mi (dD e.2.1.1.1) e.2.2.2.2.1) (a6 ((e.2.2.2.1.1,(e.2.2.2.1.2.1,((iw e.2.2.2.2.1 (dD e.2.1.1.1) ((dK e.2.2.2.2.1 (0,(0,(0,(0,())))) (dD e.2.1.1.1)).1,((dK e.2.2.2.2.1 (0,(0,(0,(0,())))) (dD e.2.1.1.1)).2.1,(e.2.2.2.1.2.1,((dK e.2.2.2.2.1 (0,(0,(0,(0,())))) (dD e.2.1.1.1)).2.2.2.1,()))))),(e.2.1.1.2.1,(e.2.2.2.1.2.2.2.1,()))))),())) a7) a7) (fun u=>a7)) a7) a7) a7) a7) a7) a7) a7) a7
noncomputable def agB (q:iI):Env:=gz prog tt [] [(176,2,Tj),(148,600003,aj8),(41,600003,jR)] [(176,2,OI q)] [] [(69,EU),(70,X0),(106,C9),(175,NT),(177,amE q)]
def Ph (q:iI) {d:Type} (a:Cj.den->Option d) (b:Ep.den->Option d) (c:Ez.den->Option d) (v:Cj.den):Option d:=uh q (fun e f g i j l o=>a ((),((e,f,()),(),(),()),((),(g,i,j,l,()),o,()))) (fun p s u x y z A=>b ((),((p,s,()),(),(),()),((),(u,x,y,z,()),A,()))) (fun B D=>c ((),((B,D,()),(),(),()),())) v.2.1.1.1 v.2.1.1.2.1 v.2.2.2.1.1 v.2.2.2.1.2.1 v.2.2.2.1.2.2.1 v.2.2.2.1.2.2.2.1 v.2.2.2.2.1
theorem aeT (q:iI):dV (agB q) 176 Rz (OI q):=lg (Ph q) (h2:=by intros;simp only[Ph,uh,dh,di,bI,cZ,dm])
theorem ahs (q:iI):dO (agB q) 176 Rj:=nM [Rz] (aD (fM (aeT q)) aN)
theorem anw (q:iI) (H:H71 q):eF (agB q):=eB aN [176] (aD ⟨f176,Rj,by kernel_rfl,by kernel_rfl,ahs q⟩ aN) (hx:=(aD mG (aD EW (aD pW (aD rC (aD H.2.2.2.1 aN))))))
def Oz:eQ:=⟨[0,1,2],[],[],[],[],[]⟩
def as2 (q:iI) (i:List gm) (j:Int) (l:List gJ) (o p:Int):Option sD:=bJ (WG i j l o p) fun g=>cond g.2.1 (bJ (q.q219 g.1.1 g.1.2.1 g.1.2.2.1 g.1.2.2.2.1 g.1.2.2.2.2.1) fun e=>a6 ((e.1.1,(e.1.2.1,(e.1.2.2.1,(e.1.2.2.2.1,(e.1.2.2.2.2.1,()))))),()))<|bJ (ajC g.1.1 g.1.2.1 g.1.2.2.1 g.1.2.2.2.1 g.1.2.2.2.2.1) fun e=>cond e.2.1 (cond (bV 16 16) (cond (bV e.1.2.1 e.1.2.1) (cond (bV e.1.2.2.2.1 e.1.2.2.2.1) (cond (dY (bT e.1.2.2.1 [(16,(e.1.2.1,(0,(e.1.2.2.2.1,()))))]) 32) (cond (bV 16 16) (cond (bV e.1.2.1 e.1.2.1) (cond (bV e.1.2.2.2.1 e.1.2.2.2.1) (cond ((bV 16 16)&&((bV e.1.2.1 e.1.2.1)&&((bV 0 0)&&((bV e.1.2.2.2.1 e.1.2.2.2.1)&&true)))) (bJ (q.q222 e.1.1 e.1.2.1 (bT e.1.2.2.1 [(16,(e.1.2.1,(0,(e.1.2.2.2.1,()))))]) (bM e.1.2.2.1) (dw .i64 e.1.2.2.2.2.1 1)) fun d=>cond (fV d.1.2.2.1 (bM e.1.2.2.1)) (cond (mi (dD (bM e.1.2.2.1)) d.1.2.2.1) (a6 ((d.1.1,(d.1.2.1,((iw d.1.2.2.1 (dD (bM e.1.2.2.1)) ((dK d.1.2.2.1 (0,(0,(0,(0,())))) (dD (bM e.1.2.2.1))).1,((dK d.1.2.2.1 (0,(0,(0,(0,())))) (dD (bM e.1.2.2.1))).2.1,(d.1.2.1,((dK d.1.2.2.1 (0,(0,(0,(0,())))) (dD (bM e.1.2.2.1))).2.2.2.1,()))))),(e.1.2.2.2.1,((eU .i64 d.1.2.2.2.2.1 1),()))))),())) a7) a7) a7) a7) a7) a7) a7) a7) a7) a7)<|bJ (adq e.1.1 e.1.2.1 e.1.2.2.1 e.1.2.2.2.1 e.1.2.2.2.2.1) fun d=>cond d.2.1 (cond (bV 5 5) (cond (bV d.1.2.1 d.1.2.1) (cond (bV d.1.2.2.2.1 d.1.2.2.2.1) (cond (dY (bT d.1.2.2.1 [(5,(d.1.2.1,(0,(d.1.2.2.2.1,()))))]) 32) (cond (bV 5 5) (cond (bV d.1.2.1 d.1.2.1) (cond (bV d.1.2.2.2.1 d.1.2.2.2.1) (cond ((bV 5 5)&&((bV d.1.2.1 d.1.2.1)&&((bV 0 0)&&((bV d.1.2.2.2.1 d.1.2.2.2.1)&&true)))) (bJ (adI d.1.1 d.1.2.1 (bT d.1.2.2.1 [(5,(d.1.2.1,(0,(d.1.2.2.2.1,()))))]) (bM d.1.2.2.1) d.1.2.2.2.2.1) fun f=>cond (fV f.1.2.2.1 (bM d.1.2.2.1)) (cond (mi (dD (bM d.1.2.2.1)) f.1.2.2.1) (a6 ((f.1.1,(f.1.2.1,((iw f.1.2.2.1 (dD (bM d.1.2.2.1)) ((dK f.1.2.2.1 (0,(0,(0,(0,())))) (dD (bM d.1.2.2.1))).1,((dK f.1.2.2.1 (0,(0,(0,(0,())))) (dD (bM d.1.2.2.1))).2.1,(f.1.2.1,((dK f.1.2.2.1 (0,(0,(0,(0,())))) (dD (bM d.1.2.2.1))).2.2.2.1,()))))),(d.1.2.2.2.1,(f.1.2.2.2.2.1,()))))),())) a7) a7) a7) a7) a7) a7) a7) a7) a7) a7)<|bJ (zQ d.1.1 d.1.2.1 d.1.2.2.1 d.1.2.2.2.1 d.1.2.2.2.2.1) fun f=>a6 ((f.1.1,(f.1.2.1,(f.1.2.2.1,(f.1.2.2.2.1,(f.1.2.2.2.2.1,()))))),())
noncomputable def aDT (q:iI):Env:=gz prog tt [] [(177,600004,uI),(177,600006,uI),(41,600003,jR),(221,600001,Oz)] [] [] [(104,awL),(147,aiE),(175,NT),(219,acG q),(220,axn),(222,amG q),(223,axo)]
theorem anD (q:iI) (H:H71 q):eF (aDT q):=eB aN [] aN (hx:=(aD XH (aD NP (aD rC (aD H.2.2.2.2.2.1 (aD apW (aD H.2.2.2.2.1 (aD apX aN))))))))
def as3 (q:iI) (l:List gm) (o:Int) (p:List gJ) (s u:Int):Option sD:=bJ (Om l o p s u) fun f=>bJ (uG f.1.1 f.1.2.1 f.1.2.2.1 f.1.2.2.2.1 f.1.2.2.2.2.1 [40]) fun g=>bJ (wJ g.1.1 g.1.2.1 g.1.2.2.1 g.1.2.2.2.1 g.1.2.2.2.2.1 [41]) fun i=>bJ (tH i.1.1 i.1.2.1 i.1.2.2.1 i.1.2.2.2.1 i.1.2.2.2.2.1) fun j=>bJ (WG j.1.1 j.1.2.1 j.1.2.2.1 j.1.2.2.2.1 j.1.2.2.2.2.1) fun d=>cond d.2.1 (bJ (q.q219 d.1.1 d.1.2.1 d.1.2.2.1 d.1.2.2.2.1 d.1.2.2.2.2.1) fun e=>a6 ((e.1.1,(e.1.2.1,(e.1.2.2.1,(e.1.2.2.2.1,(e.1.2.2.2.2.1,()))))),()))<|bJ (zQ d.1.1 d.1.2.1 d.1.2.2.1 d.1.2.2.2.1 d.1.2.2.2.2.1) fun e=>a6 ((e.1.1,(e.1.2.1,(e.1.2.2.1,(e.1.2.2.2.1,(e.1.2.2.2.2.1,()))))),())
noncomputable def aDU (q:iI):Env:=gz prog tt [] [] [] [] [(69,EU),(106,C9),(147,aiE),(175,NT),(219,acG q),(259,acJ),(260,EP)]
theorem anM (q:iI) (H:H71 q):eF (aDU q):=eB aN [] aN (hx:=(aD mG (aD pW (aD NP (aD rC (aD H.2.2.2.2.2.1 (aD Gy (aD rD aN))))))))
noncomputable def Rk:Code:=(f257.body).getD .skip
noncomputable def nC:Code:=cA (cA (cB (cB (Rk))))
def pq:eQ:=⟨[0,258000002],[],[],[],[],[]⟩
def auv:eQ:=⟨[1,2,3],[],[],[],[],[]⟩
def Cm:SQ:=⟨eN,bB,eh⟩
def Es:SQ:=⟨dy,bB,eh⟩
def EC:SQ:=⟨dy,bB,[]⟩
def EI (q:iI) {e:Type} (p s:Int->Int->Int->Int->Int->Int->(List gJ)->(List gm)->Int->Int->Int->Option e) (A:Int->Int->Int->Int->Int->Int->Option e) (f g i j l o:Int) (u:List gJ) (v:List gm) (x y z:Int):Option e:=bJ (Dj v x u y z) fun d=>cond d.2.1 (p f g i j l o d.1.2.2.1 d.1.1 d.1.2.1 d.1.2.2.2.1 d.1.2.2.2.2.1)<|s f g i j l o d.1.2.2.1 d.1.1 d.1.2.1 d.1.2.2.2.1 d.1.2.2.2.2.1
def D7 (q:iI):Nat->Int->Int->Int->Int->Int->Int->(List gJ)->(List gm)->Int->Int->Int->Option (Es.den⊕EC.den)
 |0,_,_,_,_,_,_,_,_,_,_,_=>a7
 |n+1,d,e,f,g,i,j,l,o,p,s,u=>EI q (D7 q n) (fun v x y z A B D E G I J=>a6 (.inl ((),((v,x,()),(y,z,()),(A,B,()),(),()),((),(),D,(E,G,I,J,()),())))) (fun K L M N O S=>a6 (.inr ((),((K,L,()),(M,N,()),(O,S,()),(),()),()))) d e f g i j l o p s u
def aey (q:iI) (n:Nat) (v:Cm.den):=bq (D7 q n) v
noncomputable def Ea (q:iI):dE:=fG pq Cm Es EC (.exit 0) (aey q bQ) 6
def uO:SQ:=⟨eN,bB,ei⟩
def yU:SQ:=⟨dy,bB,ei⟩
def zf:SQ:=⟨dy,bB,[]⟩
def zx (q:iI) {e:Type} (p s:Int->Int->Int->Int->Int->Int->(List gJ)->(List gm)->Int->Int->Int->Option e) (A:Int->Int->Int->Int->Int->Int->Option e) (f g i j l o:Int) (u:List gJ) (v:List gm) (x y z:Int):Option e:=bJ (Dj v x u y z) fun d=>cond d.2.1 (p f g i j l o d.1.2.2.1 d.1.1 d.1.2.1 d.1.2.2.2.1 d.1.2.2.2.2.1)<|s f g i j l o d.1.2.2.1 d.1.1 d.1.2.1 d.1.2.2.2.1 d.1.2.2.2.2.1
def yG (q:iI):Nat->Int->Int->Int->Int->Int->Int->(List gJ)->(List gm)->Int->Int->Int->Option (yU.den⊕zf.den)
 |0,_,_,_,_,_,_,_,_,_,_,_=>a7
 |n+1,d,e,f,g,i,j,l,o,p,s,u=>zx q (yG q n) (fun v x y z A B D E G I J=>a6 (.inl ((),((v,x,()),(y,z,()),(A,B,()),(),()),((),(),D,(E,G,I,J,()),())))) (fun K L M N O S=>a6 (.inr ((),((K,L,()),(M,N,()),(O,S,()),(),()),()))) d e f g i j l o p s u
def Vy (q:iI) (n:Nat) (v:uO.den):=bq (yG q n) v
noncomputable def yN (q:iI):dE:=fG pq uO yU zf (.exit 0) (Vy q bQ) 12
def uP:SQ:=⟨eN,bB,ej⟩
def yV:SQ:=⟨dy,bB,ej⟩
def zg:SQ:=⟨dy,bB,[]⟩
def zy (q:iI) {e:Type} (p s:Int->Int->Int->Int->Int->Int->(List gJ)->(List gm)->Int->Int->Int->Option e) (A:Int->Int->Int->Int->Int->Int->Option e) (f g i j l o:Int) (u:List gJ) (v:List gm) (x y z:Int):Option e:=bJ (Dj v x u y z) fun d=>cond d.2.1 (p f g i j l o d.1.2.2.1 d.1.1 d.1.2.1 d.1.2.2.2.1 d.1.2.2.2.2.1)<|s f g i j l o d.1.2.2.1 d.1.1 d.1.2.1 d.1.2.2.2.1 d.1.2.2.2.2.1
def yH (q:iI):Nat->Int->Int->Int->Int->Int->Int->(List gJ)->(List gm)->Int->Int->Int->Option (yV.den⊕zg.den)
 |0,_,_,_,_,_,_,_,_,_,_,_=>a7
 |n+1,d,e,f,g,i,j,l,o,p,s,u=>zy q (yH q n) (fun v x y z A B D E G I J=>a6 (.inl ((),((v,x,()),(y,z,()),(A,B,()),(),()),((),(),D,(E,G,I,J,()),())))) (fun K L M N O S=>a6 (.inr ((),((K,L,()),(M,N,()),(O,S,()),(),()),()))) d e f g i j l o p s u
def Vz (q:iI) (n:Nat) (v:uP.den):=bq (yH q n) v
noncomputable def yO (q:iI):dE:=fG pq uP yV zg (.exit 0) (Vz q bQ) 18
def uQ:SQ:=⟨eN,bB,ek⟩
def yX:SQ:=⟨dy,bB,ek⟩
def zh:SQ:=⟨dy,bB,[]⟩
def zA (q:iI) {e:Type} (p s:Int->Int->Int->Int->Int->Int->(List gJ)->(List gm)->Int->Int->Int->Option e) (A:Int->Int->Int->Int->Int->Int->Option e) (f g i j l o:Int) (u:List gJ) (v:List gm) (x y z:Int):Option e:=bJ (Dj v x u y z) fun d=>cond d.2.1 (p f g i j l o d.1.2.2.1 d.1.1 d.1.2.1 d.1.2.2.2.1 d.1.2.2.2.2.1)<|s f g i j l o d.1.2.2.1 d.1.1 d.1.2.1 d.1.2.2.2.1 d.1.2.2.2.2.1
def yI (q:iI):Nat->Int->Int->Int->Int->Int->Int->(List gJ)->(List gm)->Int->Int->Int->Option (yX.den⊕zh.den)
 |0,_,_,_,_,_,_,_,_,_,_,_=>a7
 |n+1,d,e,f,g,i,j,l,o,p,s,u=>zA q (yI q n) (fun v x y z A B D E G I J=>a6 (.inl ((),((v,x,()),(y,z,()),(A,B,()),(),()),((),(),D,(E,G,I,J,()),())))) (fun K L M N O S=>a6 (.inr ((),((K,L,()),(M,N,()),(O,S,()),(),()),()))) d e f g i j l o p s u
def VA (q:iI) (n:Nat) (v:uQ.den):=bq (yI q n) v
noncomputable def yP (q:iI):dE:=fG pq uQ yX zh (.exit 0) (VA q bQ) 24
def uS:SQ:=⟨eN,bB,en⟩
def yY:SQ:=⟨dy,bB,en⟩
def zi:SQ:=⟨dy,bB,[]⟩
def zB (q:iI) {e:Type} (p s:Int->Int->Int->Int->Int->Int->(List gJ)->(List gm)->Int->Int->Int->Option e) (A:Int->Int->Int->Int->Int->Int->Option e) (f g i j l o:Int) (u:List gJ) (v:List gm) (x y z:Int):Option e:=bJ (Dj v x u y z) fun d=>cond d.2.1 (p f g i j l o d.1.2.2.1 d.1.1 d.1.2.1 d.1.2.2.2.1 d.1.2.2.2.2.1)<|s f g i j l o d.1.2.2.1 d.1.1 d.1.2.1 d.1.2.2.2.1 d.1.2.2.2.2.1
def yJ (q:iI):Nat->Int->Int->Int->Int->Int->Int->(List gJ)->(List gm)->Int->Int->Int->Option (yY.den⊕zi.den)
 |0,_,_,_,_,_,_,_,_,_,_,_=>a7
 |n+1,d,e,f,g,i,j,l,o,p,s,u=>zB q (yJ q n) (fun v x y z A B D E G I J=>a6 (.inl ((),((v,x,()),(y,z,()),(A,B,()),(),()),((),(),D,(E,G,I,J,()),())))) (fun K L M N O S=>a6 (.inr ((),((K,L,()),(M,N,()),(O,S,()),(),()),()))) d e f g i j l o p s u
def VB (q:iI) (n:Nat) (v:uS.den):=bq (yJ q n) v
noncomputable def yQ (q:iI):dE:=fG pq uS yY zi (.exit 0) (VB q bQ) 30
def uT:SQ:=⟨eN,bB,eo⟩
def yZ:SQ:=⟨dy,bB,eo⟩
def zk:SQ:=⟨dy,bB,[]⟩
def zC (q:iI) {e:Type} (p s:Int->Int->Int->Int->Int->Int->(List gJ)->(List gm)->Int->Int->Int->Option e) (A:Int->Int->Int->Int->Int->Int->Option e) (f g i j l o:Int) (u:List gJ) (v:List gm) (x y z:Int):Option e:=bJ (Dj v x u y z) fun d=>cond d.2.1 (p f g i j l o d.1.2.2.1 d.1.1 d.1.2.1 d.1.2.2.2.1 d.1.2.2.2.2.1)<|s f g i j l o d.1.2.2.1 d.1.1 d.1.2.1 d.1.2.2.2.1 d.1.2.2.2.2.1
def yK (q:iI):Nat->Int->Int->Int->Int->Int->Int->(List gJ)->(List gm)->Int->Int->Int->Option (yZ.den⊕zk.den)
 |0,_,_,_,_,_,_,_,_,_,_,_=>a7
 |n+1,d,e,f,g,i,j,l,o,p,s,u=>zC q (yK q n) (fun v x y z A B D E G I J=>a6 (.inl ((),((v,x,()),(y,z,()),(A,B,()),(),()),((),(),D,(E,G,I,J,()),())))) (fun K L M N O S=>a6 (.inr ((),((K,L,()),(M,N,()),(O,S,()),(),()),()))) d e f g i j l o p s u
def VC (q:iI) (n:Nat) (v:uT.den):=bq (yK q n) v
noncomputable def yR (q:iI):dE:=fG pq uT yZ zk (.exit 0) (VC q bQ) 36
def aIV (q:iI) (j:List gm) (l:Int) (o:List gJ) (p s:Int):Option sD:=bJ (cond (bV 9 9) (cond ((((bV 9 9)&&true)&&(((lZ nO o o)&&(((lZ Vk j j)&&((bV l l)&&((bV p p)&&((bV s s)&&true))))&&true))&&true))&&true) (a6 ()) (a7)) (a7)) fun u=>bJ (xH j l o p s 0) fun d=>cond (bV d.2.1 40) (cond (bV 10 10) (cond (bV d.1.2.1 d.1.2.1) (cond (bV d.1.2.2.2.1 d.1.2.2.2.1) (cond (dY (bT d.1.2.2.1 [(10,(d.1.2.1,(0,(d.1.2.2.2.1,()))))]) 32) (cond (bV 10 10) (cond (bV d.1.2.1 d.1.2.1) (cond (bV d.1.2.2.2.1 d.1.2.2.2.1) (cond ((bV 10 10)&&((bV d.1.2.1 d.1.2.1)&&((bV 0 0)&&((bV d.1.2.2.2.1 d.1.2.2.2.1)&&true)))) (bJ (q.q252 d.1.1 (dw .i64 d.1.2.1 1) (bT d.1.2.2.1 [(10,(d.1.2.1,(0,(d.1.2.2.2.1,()))))]) (bM d.1.2.2.1) (dw .i64 d.1.2.2.2.2.1 1)) fun f=>bJ (D7 q bQ (bM d.1.2.2.1) d.1.2.2.2.1 10 10 10 10 f.1.2.2.1 f.1.1 f.1.2.1 f.1.2.2.2.1 f.1.2.2.2.2.1) fun g=>dW g (fun e=>cond (fV e.2.2.2.2.1 e.2.1.1.1) (cond (mi (dD e.2.1.1.1) e.2.2.2.2.1) (a6 ((e.2.2.2.2.2.1.1,(e.2.2.2.2.2.1.2.1,((iw e.2.2.2.2.1 (dD e.2.1.1.1) ((dK e.2.2.2.2.1 (0,(0,(0,(0,())))) (dD e.2.1.1.1)).1,((dK e.2.2.2.2.1 (0,(0,(0,(0,())))) (dD e.2.1.1.1)).2.1,(e.2.2.2.2.2.1.2.1,((dK e.2.2.2.2.1 (0,(0,(0,(0,())))) (dD e.2.1.1.1)).2.2.2.1,()))))),(e.2.1.1.2.1,((eU .i64 e.2.2.2.2.2.1.2.2.2.1 1),()))))),())) a7) a7) (fun i=>a7)) a7) a7) a7) a7) a7) a7) a7) a7)<|cond (bV d.2.1 105) (cond (bV 11 11) (cond (bV d.1.2.1 d.1.2.1) (cond (bV d.1.2.2.2.1 d.1.2.2.2.1) (cond (dY (bT d.1.2.2.1 [(11,(d.1.2.1,(0,(d.1.2.2.2.1,()))))]) 32) (cond (bV 11 11) (cond (bV d.1.2.1 d.1.2.1) (cond (bV d.1.2.2.2.1 d.1.2.2.2.1) (cond ((bV 11 11)&&((bV d.1.2.1 d.1.2.1)&&((bV 0 0)&&((bV d.1.2.2.2.1 d.1.2.2.2.1)&&true)))) (bJ (q.q253 d.1.1 (dw .i64 d.1.2.1 1) (bT d.1.2.2.1 [(11,(d.1.2.1,(0,(d.1.2.2.2.1,()))))]) (bM d.1.2.2.1) (dw .i64 d.1.2.2.2.2.1 1)) fun f=>bJ (yG q bQ (bM d.1.2.2.1) d.1.2.2.2.1 11 11 11 11 f.1.2.2.1 f.1.1 f.1.2.1 f.1.2.2.2.1 f.1.2.2.2.2.1) fun g=>dW g (fun e=>cond (fV e.2.2.2.2.1 e.2.1.1.1) (cond (mi (dD e.2.1.1.1) e.2.2.2.2.1) (a6 ((e.2.2.2.2.2.1.1,(e.2.2.2.2.2.1.2.1,((iw e.2.2.2.2.1 (dD e.2.1.1.1) ((dK e.2.2.2.2.1 (0,(0,(0,(0,())))) (dD e.2.1.1.1)).1,((dK e.2.2.2.2.1 (0,(0,(0,(0,())))) (dD e.2.1.1.1)).2.1,(e.2.2.2.2.2.1.2.1,((dK e.2.2.2.2.1 (0,(0,(0,(0,())))) (dD e.2.1.1.1)).2.2.2.1,()))))),(e.2.1.1.2.1,((eU .i64 e.2.2.2.2.2.1.2.2.2.1 1),()))))),())) a7) a7) (fun i=>a7)) a7) a7) a7) a7) a7) a7) a7) a7)<|cond (bV d.2.1 119) (cond (bV 12 12) (cond (bV d.1.2.1 d.1.2.1) (cond (bV d.1.2.2.2.1 d.1.2.2.2.1) (cond (dY (bT d.1.2.2.1 [(12,(d.1.2.1,(0,(d.1.2.2.2.1,()))))]) 32) (cond (bV 12 12) (cond (bV d.1.2.1 d.1.2.1) (cond (bV d.1.2.2.2.1 d.1.2.2.2.1) (cond ((bV 12 12)&&((bV d.1.2.1 d.1.2.1)&&((bV 0 0)&&((bV d.1.2.2.2.1 d.1.2.2.2.1)&&true)))) (bJ (q.q254 d.1.1 (dw .i64 d.1.2.1 1) (bT d.1.2.2.1 [(12,(d.1.2.1,(0,(d.1.2.2.2.1,()))))]) (bM d.1.2.2.1) (dw .i64 d.1.2.2.2.2.1 1)) fun f=>bJ (yH q bQ (bM d.1.2.2.1) d.1.2.2.2.1 12 12 12 12 f.1.2.2.1 f.1.1 f.1.2.1 f.1.2.2.2.1 f.1.2.2.2.2.1) fun g=>dW g (fun e=>cond (fV e.2.2.2.2.1 e.2.1.1.1) (cond (mi (dD e.2.1.1.1) e.2.2.2.2.1) (a6 ((e.2.2.2.2.2.1.1,(e.2.2.2.2.2.1.2.1,((iw e.2.2.2.2.1 (dD e.2.1.1.1) ((dK e.2.2.2.2.1 (0,(0,(0,(0,())))) (dD e.2.1.1.1)).1,((dK e.2.2.2.2.1 (0,(0,(0,(0,())))) (dD e.2.1.1.1)).2.1,(e.2.2.2.2.2.1.2.1,((dK e.2.2.2.2.1 (0,(0,(0,(0,())))) (dD e.2.1.1.1)).2.2.2.1,()))))),(e.2.1.1.2.1,((eU .i64 e.2.2.2.2.2.1.2.2.2.1 1),()))))),())) a7) a7) (fun i=>a7)) a7) a7) a7) a7) a7) a7) a7) a7)<|cond (bV d.2.1 114) (cond (bV 13 13) (cond (bV d.1.2.1 d.1.2.1) (cond (bV d.1.2.2.2.1 d.1.2.2.2.1) (cond (dY (bT d.1.2.2.1 [(13,(d.1.2.1,(0,(d.1.2.2.2.1,()))))]) 32) (cond (bV 13 13) (cond (bV d.1.2.1 d.1.2.1) (cond (bV d.1.2.2.2.1 d.1.2.2.2.1) (cond ((bV 13 13)&&((bV d.1.2.1 d.1.2.1)&&((bV 0 0)&&((bV d.1.2.2.2.1 d.1.2.2.2.1)&&true)))) (bJ (q.q255 d.1.1 (dw .i64 d.1.2.1 1) (bT d.1.2.2.1 [(13,(d.1.2.1,(0,(d.1.2.2.2.1,()))))]) (bM d.1.2.2.1) (dw .i64 d.1.2.2.2.2.1 1)) fun f=>bJ (yI q bQ (bM d.1.2.2.1) d.1.2.2.2.1 13 13 13 13 f.1.2.2.1 f.1.1 f.1.2.1 f.1.2.2.2.1 f.1.2.2.2.2.1) fun g=>dW g (fun e=>cond (fV e.2.2.2.2.1 e.2.1.1.1) (cond (mi (dD e.2.1.1.1) e.2.2.2.2.1) (a6 ((e.2.2.2.2.2.1.1,(e.2.2.2.2.2.1.2.1,((iw e.2.2.2.2.1 (dD e.2.1.1.1) ((dK e.2.2.2.2.1 (0,(0,(0,(0,())))) (dD e.2.1.1.1)).1,((dK e.2.2.2.2.1 (0,(0,(0,(0,())))) (dD e.2.1.1.1)).2.1,(e.2.2.2.2.2.1.2.1,((dK e.2.2.2.2.1 (0,(0,(0,(0,())))) (dD e.2.1.1.1)).2.2.2.1,()))))),(e.2.1.1.2.1,((eU .i64 e.2.2.2.2.2.1.2.2.2.1 1),()))))),())) a7) a7) (fun i=>a7)) a7) a7) a7) a7) a7) a7) a7) a7)<|cond (bV d.2.1 99) (cond (bV 14 14) (cond (bV d.1.2.1 d.1.2.1) (cond (bV d.1.2.2.2.1 d.1.2.2.2.1) (cond (dY (bT d.1.2.2.1 [(14,(d.1.2.1,(0,(d.1.2.2.2.1,()))))]) 32) (cond (bV 14 14) (cond (bV d.1.2.1 d.1.2.1) (cond (bV d.1.2.2.2.1 d.1.2.2.2.1) (cond ((bV 14 14)&&((bV d.1.2.1 d.1.2.1)&&((bV 0 0)&&((bV d.1.2.2.2.1 d.1.2.2.2.1)&&true)))) (bJ (q.q256 d.1.1 (dw .i64 d.1.2.1 1) (bT d.1.2.2.1 [(14,(d.1.2.1,(0,(d.1.2.2.2.1,()))))]) (bM d.1.2.2.1) (dw .i64 d.1.2.2.2.2.1 1)) fun f=>bJ (yJ q bQ (bM d.1.2.2.1) d.1.2.2.2.1 14 14 14 14 f.1.2.2.1 f.1.1 f.1.2.1 f.1.2.2.2.1 f.1.2.2.2.2.1) fun g=>dW g (fun e=>cond (fV e.2.2.2.2.1 e.2.1.1.1) (cond (mi (dD e.2.1.1.1) e.2.2.2.2.1) (a6 ((e.2.2.2.2.2.1.1,(e.2.2.2.2.2.1.2.1,((iw e.2.2.2.2.1 (dD e.2.1.1.1) ((dK e.2.2.2.2.1 (0,(0,(0,(0,())))) (dD e.2.1.1.1)).1,((dK e.2.2.2.2.1 (0,(0,(0,(0,())))) (dD e.2.1.1.1)).2.1,(e.2.2.2.2.2.1.2.1,((dK e.2.2.2.2.1 (0,(0,(0,(0,())))) (dD e.2.1.1.1)).2.2.2.1,()))))),(e.2.1.1.2.1,((eU .i64 e.2.2.2.2.2.1.2.2.2.1 1),()))))),())) a7) a7) (fun i=>a7)) a7) a7) a7) a7) a7) a7) a7) a7)<|cond (bV 9 9) (cond (bV d.1.2.1 d.1.2.1) (cond (bV d.1.2.2.2.1 d.1.2.2.2.1) (cond (dY (bT d.1.2.2.1 [(9,(d.1.2.1,(0,(d.1.2.2.2.1,()))))]) 32) (cond (bV 9 9) (cond (bV d.1.2.1 d.1.2.1) (cond (bV d.1.2.2.2.1 d.1.2.2.2.1) (cond ((bV 9 9)&&((bV d.1.2.1 d.1.2.1)&&((bV 0 0)&&((bV d.1.2.2.2.1 d.1.2.2.2.1)&&true)))) (bJ (q.q251 d.1.1 (dw .i64 d.1.2.1 1) (bT d.1.2.2.1 [(9,(d.1.2.1,(0,(d.1.2.2.2.1,()))))]) (bM d.1.2.2.1) (dw .i64 d.1.2.2.2.2.1 1)) fun f=>bJ (yK q bQ (bM d.1.2.2.1) d.1.2.2.2.1 9 9 9 9 f.1.2.2.1 f.1.1 f.1.2.1 f.1.2.2.2.1 f.1.2.2.2.2.1) fun g=>dW g (fun e=>cond (fV e.2.2.2.2.1 e.2.1.1.1) (cond (mi (dD e.2.1.1.1) e.2.2.2.2.1) (a6 ((e.2.2.2.2.2.1.1,(e.2.2.2.2.2.1.2.1,((iw e.2.2.2.2.1 (dD e.2.1.1.1) ((dK e.2.2.2.2.1 (0,(0,(0,(0,())))) (dD e.2.1.1.1)).1,((dK e.2.2.2.2.1 (0,(0,(0,(0,())))) (dD e.2.1.1.1)).2.1,(e.2.2.2.2.2.1.2.1,((dK e.2.2.2.2.1 (0,(0,(0,(0,())))) (dD e.2.1.1.1)).2.2.2.1,()))))),(e.2.1.1.2.1,((eU .i64 e.2.2.2.2.2.1.2.2.2.1 1),()))))),())) a7) a7) (fun i=>a7)) a7) a7) a7) a7) a7) a7) a7) a7
noncomputable def Bi (q:iI):Env:=gz prog tt [] [(257,2,pq),(219,600013,auv),(221,600001,Oz),(41,600003,jR),(257,600001,rH)] [(257,2,kU (Ea q) (kU (yN q) (kU (yO q) (kU (yP q) (kU (yQ q) ((yR q)))))))] [] [(103,aiB),(251,amJ q),(252,amK q),(253,amL q),(254,amM q),(255,amN q),(256,amO q),(258,aiH)]
def Pi (q:iI) {d:Type} (a:Cm.den->Option d) (b:Es.den->Option d) (c:EC.den->Option d) (v:Cm.den):Option d:=bq (EI q (bo a) (bo b) (bp c)) v
theorem aeU (q:iI):dV (Bi q) 257 nC (Ea q):=lg (Pi q) (h2:=by intros;simp only[Pi,bo,bp,bq,EI,dh,di,bI,cZ,dm])
def Hw (q:iI) {d:Type} (a:uO.den->Option d) (b:yU.den->Option d) (c:zf.den->Option d) (v:uO.den):Option d:=bq (zx q (bo a) (bo b) (bp c)) v
theorem VG (q:iI):dV (Bi q) 257 nC (yN q):=lg (Hw q) (h2:=by intros;simp only[Hw,bo,bp,bq,zx,dh,di,bI,cZ,dm])
def Hy (q:iI) {d:Type} (a:uP.den->Option d) (b:yV.den->Option d) (c:zg.den->Option d) (v:uP.den):Option d:=bq (zy q (bo a) (bo b) (bp c)) v
theorem VH (q:iI):dV (Bi q) 257 nC (yO q):=lg (Hy q) (h2:=by intros;simp only[Hy,bo,bp,bq,zy,dh,di,bI,cZ,dm])
def Hz (q:iI) {d:Type} (a:uQ.den->Option d) (b:yX.den->Option d) (c:zh.den->Option d) (v:uQ.den):Option d:=bq (zA q (bo a) (bo b) (bp c)) v
theorem VI (q:iI):dV (Bi q) 257 nC (yP q):=lg (Hz q) (h2:=by intros;simp only[Hz,bo,bp,bq,zA,dh,di,bI,cZ,dm])
def HY (q:iI) {d:Type} (a:uS.den->Option d) (b:yY.den->Option d) (c:zi.den->Option d) (v:uS.den):Option d:=bq (zB q (bo a) (bo b) (bp c)) v
theorem VJ (q:iI):dV (Bi q) 257 nC (yQ q):=lg (HY q) (h2:=by intros;simp only[HY,bo,bp,bq,zB,dh,di,bI,cZ,dm])
def H5 (q:iI) {d:Type} (a:uT.den->Option d) (b:yZ.den->Option d) (c:zk.den->Option d) (v:uT.den):Option d:=bq (zC q (bo a) (bo b) (bp c)) v
theorem VK (q:iI):dV (Bi q) 257 nC (yR q):=lg (H5 q) (h2:=by intros;simp only[H5,bo,bp,bq,zC,dh,di,bI,cZ,dm])
theorem aht (q:iI):dO (Bi q) 257 Rk:=nM [nC] (aD (fun L h=>by rw[show((Bi q)).lp 257 (dH nC)=a6 (kU (Ea q) (kU (yN q) (kU (yO q) (kU (yP q) (kU (yQ q) ((yR q))))))) by kernel_rfl]at h;cases h;exact qV (aeU q) (qV (VG q) (qV (VH q) (qV (VI q) (qV (VJ q) ((VK q))))))) aN)
theorem anL (q:iI) (H:H71 q):eF (Bi q):=eB aN [257] (aD ⟨f257,Rk,by kernel_rfl,by kernel_rfl,aht q⟩ aN) (hx:=(aD ry (aD H.2.2.2.2.2.2.2.1 (aD H.2.2.2.2.2.2.2.2.1 (aD H.2.2.2.2.2.2.2.2.2.1 (aD H.2.2.2.2.2.2.2.2.2.2.1 (aD H.2.2.2.2.2.2.2.2.2.2.2.1 (aD H.2.2.2.2.2.2.2.2.2.2.2.2.1 (aD XX aN)))))))))
def as5 (q:iI) (g:List gm) (i:Int) (j:List gJ) (l o:Int):Option sD:=bJ (tH g i j l o) fun f=>bJ (Vw f.1.1 f.1.2.1 f.1.2.2.1 f.1.2.2.2.1 f.1.2.2.2.2.1) fun d=>cond d.2.1 (cond (bV 2 2) (cond (bV d.1.2.1 d.1.2.1) (cond (bV d.1.2.2.2.1 d.1.2.2.2.1) (cond (dY (bT d.1.2.2.1 [(2,(d.1.2.1,(0,(d.1.2.2.2.1,()))))]) 32) (cond (bV 2 2) (cond (bV d.1.2.1 d.1.2.1) (cond (bV d.1.2.2.2.1 d.1.2.2.2.1) (cond ((bV 2 2)&&((bV d.1.2.1 d.1.2.1)&&((bV 0 0)&&((bV d.1.2.2.2.1 d.1.2.2.2.1)&&true)))) (bJ (q.q71 d.1.1 d.1.2.1 (bT d.1.2.2.1 [(2,(d.1.2.1,(0,(d.1.2.2.2.1,()))))]) (bM d.1.2.2.1) d.1.2.2.2.2.1) fun e=>cond (fV e.1.2.2.1 (bM d.1.2.2.1)) (cond (mi (dD (bM d.1.2.2.1)) e.1.2.2.1) (a6 ((e.1.1,(e.1.2.1,((iw e.1.2.2.1 (dD (bM d.1.2.2.1)) ((dK e.1.2.2.1 (0,(0,(0,(0,())))) (dD (bM d.1.2.2.1))).1,((dK e.1.2.2.1 (0,(0,(0,(0,())))) (dD (bM d.1.2.2.1))).2.1,(e.1.2.1,((dK e.1.2.2.1 (0,(0,(0,(0,())))) (dD (bM d.1.2.2.1))).2.2.2.1,()))))),(d.1.2.2.2.1,(e.1.2.2.2.2.1,()))))),())) a7) a7) a7) a7) a7) a7) a7) a7) a7) a7)<|bJ (zQ d.1.1 d.1.2.1 d.1.2.2.1 d.1.2.2.2.1 d.1.2.2.2.2.1) fun e=>a6 ((e.1.1,(e.1.2.1,(e.1.2.2.1,(e.1.2.2.2.1,(e.1.2.2.2.2.1,()))))),())
noncomputable def aD0 (q:iI):Env:=gz prog tt [] [(268,600002,uI),(41,600003,jR)] [] [] [(70,X0),(71,aiJ q),(106,C9),(175,NT)]
theorem an2 (q:iI) (H:H71 q):eF (aD0 q):=eB aN [] aN (hx:=(aD EW (aD H.1 (aD pW (aD rC aN)))))
def aIZ (q:iI) (f:List gm) (g:Int) (i:List gJ) (j l:Int):Option sD:=bJ (q.q268 f g i j l) fun d=>bJ (wJ d.1.1 d.1.2.1 d.1.2.2.1 d.1.2.2.2.1 d.1.2.2.2.2.1 [125]) fun e=>a6 ((e.1.1,(e.1.2.1,(e.1.2.2.1,(e.1.2.2.2.1,(e.1.2.2.2.2.1,()))))),())
noncomputable def aDX (q:iI):Env:=gz prog tt [] [] [] [] [(260,EP),(268,GG q)]
theorem anV (q:iI) (H:H71 q):eF (aDX q):=eB aN [] aN (hx:=(aD rD (aD H.2.2.2.2.2.2.1 aN)))
def aI0 (q:iI) (f:List gm) (g:Int) (i:List gJ) (j l:Int):Option sD:=bJ (q.q268 f g i j l) fun d=>bJ (wJ d.1.1 d.1.2.1 d.1.2.2.1 d.1.2.2.2.1 d.1.2.2.2.2.1 [41]) fun e=>a6 ((e.1.1,(e.1.2.1,(e.1.2.2.1,(e.1.2.2.2.1,(e.1.2.2.2.2.1,()))))),())
noncomputable def aDY (q:iI):Env:=gz prog tt [] [] [] [] [(260,EP),(268,GG q)]
theorem anW (q:iI) (H:H71 q):eF (aDY q):=eB aN [] aN (hx:=(aD rD (aD H.2.2.2.2.2.2.1 aN)))
noncomputable def aDK:Code:=(f253.body).getD .skip
noncomputable def arj:Code:=cA (cA (cA (cB (cB (cB (aDK))))))
def aun:eQ:=⟨[0,100003],[],[0],[],[],[]⟩
def aaq:SQ:=⟨us bN 21,c6,dg⟩
def aa2:SQ:=⟨us bN 21,c6,dg⟩
def abI:SQ:=⟨us [] 22,c6,[]⟩
def ack (q:iI) {i:Type} (j l:(List gm)->Int->Int->Int->(List gJ)->Option i) (x:Option i) (o:List gm) (p s u:Int) (v:List gJ):Option i:=bJ (uG o p v s u [101]) fun d=>cond d.2.1 (bJ (q.q268 d.1.1 d.1.2.1 d.1.2.2.1 d.1.2.2.2.1 d.1.2.2.2.2.1) fun e=>bJ (wJ e.1.1 e.1.2.1 e.1.2.2.1 e.1.2.2.2.1 e.1.2.2.2.2.1 [116]) fun f=>bJ (q.q268 f.1.1 f.1.2.1 f.1.2.2.1 f.1.2.2.2.1 f.1.2.2.2.2.1) fun g=>j g.1.1 g.1.2.1 g.1.2.2.2.1 g.1.2.2.2.2.1 g.1.2.2.1)<|l d.1.1 d.1.2.1 d.1.2.2.2.1 d.1.2.2.2.2.1 d.1.2.2.1
def Zp (q:iI):Nat->(List gm)->Int->Int->Int->(List gJ)->Option (aa2.den⊕abI.den)
 |0,_,_,_,_,_=>a7
 |n+1,d,e,f,g,i=>ack q (Zp q n) (fun j l o p s=>a6 (.inl ((),((),()),((j,l,o,p,()),s,())))) (a6 (.inr ((),((),()),()))) d e f g i
def aAd (q:iI) (n:Nat) (v:aaq.den):=bm (Zp q n) v
noncomputable def akN (q:iI):dE:=fG aun aaq aa2 abI (.exit 0) (aAd q bQ) 6
def aI1 (q:iI) (o:List gm) (p:Int) (s:List gJ) (u v:Int):Option sD:=bJ (q.q268 o p s u v) fun f=>bJ (wJ f.1.1 f.1.2.1 f.1.2.2.1 f.1.2.2.2.1 f.1.2.2.2.2.1 [116]) fun g=>bJ (q.q268 g.1.1 g.1.2.1 g.1.2.2.1 g.1.2.2.2.1 g.1.2.2.2.2.1) fun i=>bJ (Zp q bQ i.1.1 i.1.2.1 i.1.2.2.2.1 i.1.2.2.2.2.1 i.1.2.2.1) fun x=>dW x (fun j=>bJ (uG j.2.2.1.1 j.2.2.1.2.1 j.2.2.2.1 j.2.2.1.2.2.1 j.2.2.1.2.2.2.1 [108]) fun d=>cond d.2.1 (bJ (q.q268 d.1.1 d.1.2.1 d.1.2.2.1 d.1.2.2.2.1 d.1.2.2.2.2.1) fun e=>bJ (wJ e.1.1 e.1.2.1 e.1.2.2.1 e.1.2.2.2.1 e.1.2.2.2.2.1 [102]) fun l=>a6 ((l.1.1,(l.1.2.1,(l.1.2.2.1,(l.1.2.2.2.1,(l.1.2.2.2.2.1,()))))),()))<|bJ (wJ d.1.1 d.1.2.1 d.1.2.2.1 d.1.2.2.2.1 d.1.2.2.2.2.1 [102]) fun e=>a6 ((e.1.1,(e.1.2.1,(e.1.2.2.1,(e.1.2.2.2.1,(e.1.2.2.2.2.1,()))))),())) (fun y=>a7)
noncomputable def agN (q:iI):Env:=gz prog tt [] [(253,3,aun)] [(253,3,akN q)] [] [(69,EU),(260,EP),(268,GG q)]
def ame (q:iI) {d:Type} (a:aaq.den->Option d) (b:aa2.den->Option d) (c:abI.den->Option d) (v:aaq.den):Option d:=bm (ack q (bl a) (bl b) (c ((),((),()),()))) v
theorem aA4 (q:iI):dV (agN q) 253 arj (akN q):=lg (ame q) (h2:=by intros;simp only[ame,bl,bm,ack,dh,di,bI,cZ,dm])
theorem aE6 (q:iI):dO (agN q) 253 aDK:=nM [arj] (aD (fM (aA4 q)) aN)
theorem anX (q:iI) (H:H71 q):eF (agN q):=eB aN [253] (aD ⟨f253,aDK,by kernel_rfl,by kernel_rfl,aE6 q⟩ aN) (hx:=(aD mG (aD rD (aD H.2.2.2.2.2.2.1 aN))))
def aI2 (q:iI) (f:List gm) (g:Int) (i:List gJ) (j l:Int):Option sD:=bJ (q.q268 f g i j l) fun d=>bJ (q.q269 d.1.1 d.1.2.1 d.1.2.2.1 d.1.2.2.2.1 d.1.2.2.2.2.1) fun e=>a6 ((e.1.1,(e.1.2.1,(e.1.2.2.1,(e.1.2.2.2.1,(e.1.2.2.2.2.1,()))))),())
noncomputable def aDZ (q:iI):Env:=gz prog tt [] [] [] [] [(268,GG q),(269,acL q)]
theorem anY (q:iI) (H:H71 q):eF (aDZ q):=eB aN [] aN (hx:=(aD H.2.2.2.2.2.2.1 (aD H.2.2.2.2.2.2.2.2.2.2.2.2.2.2 aN)))
noncomputable def aDL:Code:=(f255.body).getD .skip
noncomputable def ark:Code:=cA (cA (cA (cA (cB (cB (cB (cB (cA (cB (aDL))))))))))
def auo:eQ:=⟨[0,100007],[],[0],[],[],[]⟩
def aar:SQ:=⟨us bN 47,c6,dg⟩
def aa3:SQ:=⟨us bN 47,c6,dg⟩
def abJ:SQ:=⟨us [] 48,c6,[]⟩
def acl (q:iI) {f:Type} (g i:(List gm)->Int->Int->Int->(List gJ)->Option f) (u:Option f) (j:List gm) (l o p:Int) (s:List gJ):Option f:=bJ (Oo j l s o p) fun d=>cond d.2.1 (bJ (SI d.1.1 d.1.2.1 d.1.2.2.1 d.1.2.2.2.1 d.1.2.2.2.2.1 7) fun e=>g e.1.1 e.1.2.1 e.1.2.2.2.1 e.1.2.2.2.2.1 e.1.2.2.1)<|i d.1.1 d.1.2.1 d.1.2.2.2.1 d.1.2.2.2.2.1 d.1.2.2.1
def Zq (q:iI):Nat->(List gm)->Int->Int->Int->(List gJ)->Option (aa3.den⊕abJ.den)
 |0,_,_,_,_,_=>a7
 |n+1,d,e,f,g,i=>acl q (Zq q n) (fun j l o p s=>a6 (.inl ((),((),()),((j,l,o,p,()),s,())))) (a6 (.inr ((),((),()),()))) d e f g i
def aAe (q:iI) (n:Nat) (v:aar.den):=bm (Zq q n) v
noncomputable def akO (q:iI):dE:=fG auo aar aa3 abJ (.exit 0) (aAe q bQ) 6
def PM (q:iI) (d:taM):Option sD:=bJ (q.q269 d.1.1 d.1.2.1 d.1.2.2.1 d.1.2.2.2.1 d.1.2.2.2.2.1) fun e=>a6 ((e.1.1,(e.1.2.1,(e.1.2.2.1,(e.1.2.2.2.1,(e.1.2.2.2.2.1,()))))),())
def YI (j:sD) (q:iI):Option sD:=bJ (uG j.1.1 j.1.2.1 j.1.2.2.1 j.1.2.2.2.1 j.1.2.2.2.2.1 [59]) fun d=>cond d.2.1 (bJ (tH d.1.1 d.1.2.1 d.1.2.2.1 d.1.2.2.2.1 d.1.2.2.2.2.1) fun f=>PM q f)<|bJ (tH d.1.1 d.1.2.1 d.1.2.2.1 d.1.2.2.2.1 d.1.2.2.2.2.1) fun f=>bJ (uG f.1.1 f.1.2.1 f.1.2.2.1 f.1.2.2.2.1 f.1.2.2.2.2.1 [107]) fun g=>cond g.2.1 (bJ (Zq q bQ g.1.1 g.1.2.1 g.1.2.2.2.1 g.1.2.2.2.2.1 g.1.2.2.1) fun s=>dW s (fun l=>bJ (uG l.2.2.1.1 l.2.2.1.2.1 l.2.2.2.1 l.2.2.1.2.2.1 l.2.2.1.2.2.2.1 [59]) fun i=>bJ (tH i.1.1 i.1.2.1 i.1.2.2.1 i.1.2.2.2.1 i.1.2.2.2.2.1) fun e=>cond (!e.2.1) (cond (!i.2.1) (bJ (zQ e.1.1 e.1.2.1 e.1.2.2.1 e.1.2.2.2.1 e.1.2.2.2.2.1) fun o=>bJ (q.q269 o.1.1 o.1.2.1 o.1.2.2.1 o.1.2.2.2.1 o.1.2.2.2.2.1) fun p=>a6 ((p.1.1,(p.1.2.1,(p.1.2.2.1,(p.1.2.2.2.1,(p.1.2.2.2.2.1,()))))),()))<|PM q e)<|PM q e) (fun u=>a7))<|PM q g
def aI3 (q:iI) (g:List gm) (i:Int) (j:List gJ) (l o:Int):Option sD:=bJ (Oo g i j l o) fun d=>cond d.2.1 (cond (fV d.1.1 d.1.2.1) (bJ (agZ (dJ d.1.1 (0,([],(0,(0,())))) d.1.2.1).2.1) fun e=>cond e.1 (bJ (SI d.1.1 d.1.2.1 d.1.2.2.1 d.1.2.2.2.1 d.1.2.2.2.2.1 7) fun f=>YI f q)<|bJ (zQ d.1.1 d.1.2.1 d.1.2.2.1 d.1.2.2.2.1 d.1.2.2.2.2.1) fun f=>YI f q) a7)<|bJ (zQ d.1.1 d.1.2.1 d.1.2.2.1 d.1.2.2.2.1 d.1.2.2.2.2.1) fun e=>YI e q
noncomputable def agO (q:iI):Env:=gz prog tt [(60,axQ)] [(255,7,auo)] [(255,7,akO q)] [] [(69,EU),(72,amS),(106,C9),(175,NT),(261,acK),(269,acL q)]
def amf (q:iI) {d:Type} (a:aar.den->Option d) (b:aa3.den->Option d) (c:abJ.den->Option d) (v:aar.den):Option d:=bm (acl q (bl a) (bl b) (c ((),((),()),()))) v
theorem aA5 (q:iI):dV (agO q) 255 ark (akO q):=lg (amf q) (h2:=by intros;simp only[amf,bl,bm,acl,dh,di,bI,cZ,dm])
theorem aE7 (q:iI):dO (agO q) 255 aDL:=nM [ark] (aD (fM (aA5 q)) aN)
theorem anZ (q:iI) (H:H71 q):eF (agO q):=eB (aD U4 aN) [255] (aD ⟨f255,aDL,by kernel_rfl,by kernel_rfl,aE7 q⟩ aN) (hx:=(aD mG (aD Lu (aD pW (aD rC (aD Gz (aD H.2.2.2.2.2.2.2.2.2.2.2.2.2.2 aN)))))))
noncomputable def aDM:Code:=(f256.body).getD .skip
noncomputable def arl:Code:=cA (cA (cA (cB (cB (cB (cB (cB (cA (aDM)))))))))
def aup:eQ:=⟨[0,100004],[],[0],[],[],[]⟩
def aas:SQ:=⟨us bN 31,c6,dg⟩
def aa4:SQ:=⟨us bN 31,c6,dg⟩
def abK:SQ:=⟨us [] 32,c6,[]⟩
def acm (q:iI) {o:Type} (p l:(List gm)->Int->Int->Int->(List gJ)->Option o) (z:Option o) (s:List gm) (u v x:Int) (y:List gJ):Option o:=bJ (WC s u y v x [40]) fun e=>cond e.2.1 (cond (bV 15 15) (cond (bV e.1.2.1 e.1.2.1) (cond (bV e.1.2.2.2.1 e.1.2.2.2.1) (cond (dY (bT e.1.2.2.1 [(15,(e.1.2.1,(0,(e.1.2.2.2.1,()))))]) 32) (cond (bV 15 15) (cond (bV e.1.2.1 e.1.2.1) (cond (bV e.1.2.2.2.1 e.1.2.2.2.1) (cond ((bV 15 15)&&((bV e.1.2.1 e.1.2.1)&&((bV 0 0)&&((bV e.1.2.2.2.1 e.1.2.2.2.1)&&true)))) (bJ (q.q270 e.1.1 e.1.2.1 (bT e.1.2.2.1 [(15,(e.1.2.1,(0,(e.1.2.2.2.1,()))))]) (bM e.1.2.2.1) e.1.2.2.2.2.1) fun f=>cond (fV f.1.2.2.1 (bM e.1.2.2.1)) (cond (mi (dD (bM e.1.2.2.1)) f.1.2.2.1) (bJ (uG f.1.1 f.1.2.1 (iw f.1.2.2.1 (dD (bM e.1.2.2.1)) ((dK f.1.2.2.1 (0,(0,(0,(0,())))) (dD (bM e.1.2.2.1))).1,((dK f.1.2.2.1 (0,(0,(0,(0,())))) (dD (bM e.1.2.2.1))).2.1,(f.1.2.1,((dK f.1.2.2.1 (0,(0,(0,(0,())))) (dD (bM e.1.2.2.1))).2.2.2.1,()))))) e.1.2.2.2.1 f.1.2.2.2.2.1 [121]) fun d=>cond (!d.2.1) (l d.1.1 d.1.2.1 d.1.2.2.2.1 d.1.2.2.2.2.1 d.1.2.2.1)<|bJ (tH d.1.1 d.1.2.1 d.1.2.2.1 d.1.2.2.2.1 d.1.2.2.2.2.1) fun g=>p g.1.1 g.1.2.1 g.1.2.2.2.1 g.1.2.2.2.2.1 g.1.2.2.1) a7) a7) a7) a7) a7) a7) a7) a7) a7) a7)<|bJ (Oo e.1.1 e.1.2.1 e.1.2.2.1 e.1.2.2.2.1 e.1.2.2.2.2.1) fun f=>cond f.2.1 (bJ (xH f.1.1 f.1.2.1 f.1.2.2.1 f.1.2.2.2.1 f.1.2.2.2.2.1 0) fun d=>cond (!(bV d.2.1 122)) (cond (bV 15 15) (cond (bV d.1.2.1 d.1.2.1) (cond (bV d.1.2.2.2.1 d.1.2.2.2.1) (cond (dY (bT d.1.2.2.1 [(15,(d.1.2.1,(0,(d.1.2.2.2.1,()))))]) 32) (cond (bV 15 15) (cond (bV d.1.2.1 d.1.2.1) (cond (bV d.1.2.2.2.1 d.1.2.2.2.1) (cond ((bV 15 15)&&((bV d.1.2.1 d.1.2.1)&&((bV 0 0)&&((bV d.1.2.2.2.1 d.1.2.2.2.1)&&true)))) (bJ (q.q270 d.1.1 d.1.2.1 (bT d.1.2.2.1 [(15,(d.1.2.1,(0,(d.1.2.2.2.1,()))))]) (bM d.1.2.2.1) d.1.2.2.2.2.1) fun g=>cond (fV g.1.2.2.1 (bM d.1.2.2.1)) (cond (mi (dD (bM d.1.2.2.1)) g.1.2.2.1) (bJ (uG g.1.1 g.1.2.1 (iw g.1.2.2.1 (dD (bM d.1.2.2.1)) ((dK g.1.2.2.1 (0,(0,(0,(0,())))) (dD (bM d.1.2.2.1))).1,((dK g.1.2.2.1 (0,(0,(0,(0,())))) (dD (bM d.1.2.2.1))).2.1,(g.1.2.1,((dK g.1.2.2.1 (0,(0,(0,(0,())))) (dD (bM d.1.2.2.1))).2.2.2.1,()))))) d.1.2.2.2.1 g.1.2.2.2.2.1 [121]) fun i=>cond (!i.2.1) (l i.1.1 i.1.2.1 i.1.2.2.2.1 i.1.2.2.2.2.1 i.1.2.2.1)<|bJ (tH i.1.1 i.1.2.1 i.1.2.2.1 i.1.2.2.2.1 i.1.2.2.2.2.1) fun j=>p j.1.1 j.1.2.1 j.1.2.2.2.1 j.1.2.2.2.2.1 j.1.2.2.1) a7) a7) a7) a7) a7) a7) a7) a7) a7) a7)<|l d.1.1 d.1.2.1 d.1.2.2.2.1 d.1.2.2.2.2.1 d.1.2.2.1)<|l f.1.1 f.1.2.1 f.1.2.2.2.1 f.1.2.2.2.2.1 f.1.2.2.1
def Zr (q:iI):Nat->(List gm)->Int->Int->Int->(List gJ)->Option (aa4.den⊕abK.den)
 |0,_,_,_,_,_=>a7
 |n+1,d,e,f,g,i=>acm q (Zr q n) (fun j l o p s=>a6 (.inl ((),((),()),((j,l,o,p,()),s,())))) (a6 (.inr ((),((),()),()))) d e f g i
def aAf (q:iI) (n:Nat) (v:aas.den):=bm (Zr q n) v
noncomputable def akP (q:iI):dE:=fG aup aas aa4 abK (.exit 0) (aAf q bQ) 6
def aI4 (q:iI) (l:List gm) (o:Int) (p:List gJ) (s u:Int):Option sD:=bJ (Om l o p s u) fun d=>bJ (tH d.1.1 d.1.2.1 d.1.2.2.1 d.1.2.2.2.1 d.1.2.2.2.2.1) fun e=>bJ (wJ e.1.1 e.1.2.1 e.1.2.2.1 e.1.2.2.2.1 e.1.2.2.2.2.1 [107]) fun f=>bJ (tH f.1.1 f.1.2.1 f.1.2.2.1 f.1.2.2.2.1 f.1.2.2.2.2.1) fun g=>bJ (Zr q bQ g.1.1 g.1.2.1 g.1.2.2.2.1 g.1.2.2.2.2.1 g.1.2.2.1) fun v=>dW v (fun i=>bJ (wJ i.2.2.1.1 i.2.2.1.2.1 i.2.2.2.1 i.2.2.1.2.2.1 i.2.2.1.2.2.2.1 [122]) fun j=>a6 ((j.1.1,(j.1.2.1,(j.1.2.2.1,(j.1.2.2.2.1,(j.1.2.2.2.2.1,()))))),())) (fun x=>a7)
noncomputable def agP (q:iI):Env:=gz prog tt [] [(256,4,aup),(256,600005,uI),(41,600003,jR)] [(256,4,akP q)] [] [(69,EU),(102,awK),(103,aiB),(106,C9),(259,acJ),(260,EP),(261,acK),(270,amP q)]
def amg (q:iI) {d:Type} (a:aas.den->Option d) (b:aa4.den->Option d) (c:abK.den->Option d) (v:aas.den):Option d:=bm (acm q (bl a) (bl b) (c ((),((),()),()))) v
theorem aA6 (q:iI):dV (agP q) 256 arl (akP q):=lg (amg q) (h2:=by intros;simp only[amg,bl,bm,acm,dh,di,bI,cZ,dm])
theorem aE8 (q:iI):dO (agP q) 256 aDM:=nM [arl] (aD (fM (aA6 q)) aN)
theorem an0 (q:iI) (H:H71 q):eF (agP q):=eB aN [256] (aD ⟨f256,aDM,by kernel_rfl,by kernel_rfl,aE8 q⟩ aN) (hx:=(aD mG (aD NJ (aD ry (aD pW (aD Gy (aD rD (aD Gz (aD H.2.2.2.2.2.2.2.2.2.2.2.2.2.1 aN)))))))))
noncomputable def aDN:Code:=(f270.body).getD .skip
noncomputable def aro:Code:=cA (cA (cA (cB (cB (aDN)))))
def auq:eQ:=⟨[0,100002],[],[0],[],[],[]⟩
def aau:SQ:=⟨us bN 19,c6,dg⟩
def aa6:SQ:=⟨us bN 19,c6,dg⟩
def abM:SQ:=⟨us [] 20,c6,[]⟩
def acn (q:iI) {f:Type} (g i:(List gm)->Int->Int->Int->(List gJ)->Option f) (u:Option f) (j:List gm) (l o p:Int) (s:List gJ):Option f:=bJ (uG j l s o p [124]) fun d=>cond d.2.1 (bJ (Om d.1.1 d.1.2.1 d.1.2.2.1 d.1.2.2.2.1 d.1.2.2.2.2.1) fun e=>g e.1.1 e.1.2.1 e.1.2.2.2.1 e.1.2.2.2.2.1 e.1.2.2.1)<|i d.1.1 d.1.2.1 d.1.2.2.2.1 d.1.2.2.2.2.1 d.1.2.2.1
def Zt (q:iI):Nat->(List gm)->Int->Int->Int->(List gJ)->Option (aa6.den⊕abM.den)
 |0,_,_,_,_,_=>a7
 |n+1,d,e,f,g,i=>acn q (Zt q n) (fun j l o p s=>a6 (.inl ((),((),()),((j,l,o,p,()),s,())))) (a6 (.inr ((),((),()),()))) d e f g i
def aAh (q:iI) (n:Nat) (v:aau.den):=bm (Zt q n) v
noncomputable def akR (q:iI):dE:=fG auq aau aa6 abM (.exit 0) (aAh q bQ) 6
def aI6 (q:iI) (o:List gm) (p:Int) (s:List gJ) (u v:Int):Option sD:=bJ (uG o p s u v [40]) fun f=>bJ (Om f.1.1 f.1.2.1 f.1.2.2.1 f.1.2.2.2.1 f.1.2.2.2.2.1) fun g=>bJ (Zt q bQ g.1.1 g.1.2.1 g.1.2.2.2.1 g.1.2.2.2.2.1 g.1.2.2.1) fun x=>dW x (fun i=>bJ (wJ i.2.2.1.1 i.2.2.1.2.1 i.2.2.2.1 i.2.2.1.2.2.1 i.2.2.1.2.2.2.1 [41]) fun j=>bJ (tH j.1.1 j.1.2.1 j.1.2.2.1 j.1.2.2.2.1 j.1.2.2.2.2.1) fun l=>bJ (Vw l.1.1 l.1.2.1 l.1.2.2.1 l.1.2.2.2.1 l.1.2.2.2.2.1) fun d=>cond d.2.1 (cond (bV 2 2) (cond (bV d.1.2.1 d.1.2.1) (cond (bV d.1.2.2.2.1 d.1.2.2.2.1) (cond (dY (bT d.1.2.2.1 [(2,(d.1.2.1,(0,(d.1.2.2.2.1,()))))]) 32) (cond (bV 2 2) (cond (bV d.1.2.1 d.1.2.1) (cond (bV d.1.2.2.2.1 d.1.2.2.2.1) (cond ((bV 2 2)&&((bV d.1.2.1 d.1.2.1)&&((bV 0 0)&&((bV d.1.2.2.2.1 d.1.2.2.2.1)&&true)))) (bJ (q.q71 d.1.1 d.1.2.1 (bT d.1.2.2.1 [(2,(d.1.2.1,(0,(d.1.2.2.2.1,()))))]) (bM d.1.2.2.1) d.1.2.2.2.2.1) fun e=>cond (fV e.1.2.2.1 (bM d.1.2.2.1)) (cond (mi (dD (bM d.1.2.2.1)) e.1.2.2.1) (a6 ((e.1.1,(e.1.2.1,((iw e.1.2.2.1 (dD (bM d.1.2.2.1)) ((dK e.1.2.2.1 (0,(0,(0,(0,())))) (dD (bM d.1.2.2.1))).1,((dK e.1.2.2.1 (0,(0,(0,(0,())))) (dD (bM d.1.2.2.1))).2.1,(e.1.2.1,((dK e.1.2.2.1 (0,(0,(0,(0,())))) (dD (bM d.1.2.2.1))).2.2.2.1,()))))),(d.1.2.2.2.1,(e.1.2.2.2.2.1,()))))),())) a7) a7) a7) a7) a7) a7) a7) a7) a7) a7)<|some ((d.1.1,(d.1.2.1,(d.1.2.2.1,(d.1.2.2.2.1,(d.1.2.2.2.2.1,()))))),())) (fun y=>a7)
noncomputable def agR (q:iI):Env:=gz prog tt [] [(270,2,auq),(270,600007,uI),(41,600003,jR)] [(270,2,akR q)] [] [(69,EU),(70,X0),(71,aiJ q),(106,C9),(259,acJ),(260,EP)]
def ami (q:iI) {d:Type} (a:aau.den->Option d) (b:aa6.den->Option d) (c:abM.den->Option d) (v:aau.den):Option d:=bm (acn q (bl a) (bl b) (c ((),((),()),()))) v
theorem aA8 (q:iI):dV (agR q) 270 aro (akR q):=lg (ami q) (h2:=by intros;simp only[ami,bl,bm,acn,dh,di,bI,cZ,dm])
theorem aFa (q:iI):dO (agR q) 270 aDN:=nM [aro] (aD (fM (aA8 q)) aN)
theorem an4 (q:iI) (H:H71 q):eF (agR q):=eB aN [270] (aD ⟨f270,aDN,by kernel_rfl,by kernel_rfl,aFa q⟩ aN) (hx:=(aD mG (aD EW (aD H.1 (aD pW (aD Gy (aD rD aN)))))))
def aI5 (q:iI) (g:List gm) (i:Int) (j:List gJ) (l o:Int):Option sD:=bJ (wJ g i j l o [100]) fun d=>bJ (q.q268 d.1.1 d.1.2.1 d.1.2.2.1 d.1.2.2.2.1 d.1.2.2.2.2.1) fun e=>bJ (wJ e.1.1 e.1.2.1 e.1.2.2.1 e.1.2.2.2.1 e.1.2.2.2.2.1 [103]) fun f=>a6 ((f.1.1,(f.1.2.1,(f.1.2.2.1,(f.1.2.2.2.1,(f.1.2.2.2.2.1,()))))),())
noncomputable def aD1 (q:iI):Env:=gz prog tt [] [] [] [] [(260,EP),(268,GG q)]
theorem an3 (q:iI) (H:H71 q):eF (aD1 q):=eB aN [] aN (hx:=(aD rD (aD H.2.2.2.2.2.2.1 aN)))
def ik:Nat->iI
 |0=>⟨(fun _ _ _ _ _=>a7),(fun _ _ _ _ _=>a7),(fun _ _ _ _ _=>a7),(fun _ _ _ _ _=>a7),(fun _ _ _ _ _=>a7),(fun _ _ _ _ _=>a7),(fun _ _ _ _ _=>a7),(fun _ _ _ _ _=>a7),(fun _ _ _ _ _=>a7),(fun _ _ _ _ _=>a7),(fun _ _ _ _ _=>a7),(fun _ _ _ _ _=>a7),(fun _ _ _ _ _=>a7),(fun _ _ _ _ _=>a7),(fun _ _ _ _ _=>a7)⟩
 |r+1=>⟨as6 (ik r),adn (ik r),RZ (ik r),as2 (ik r),as3 (ik r),aIV (ik r),as5 (ik r),aIZ (ik r),aI0 (ik r),aI1 (ik r),aI2 (ik r),aI3 (ik r),aI4 (ik r),aI6 (ik r),aI5 (ik r)⟩
def azd (d:List gm) (e:Int) (f:List gJ) (g i:Int):Option sD:=(ik bQ).q71 d e f g i
def aC4:fF:=⟨90,xf,[],[],fun x y=>azd x.1 x.2.1 x.2.2.1 x.2.2.2.1 x.2.2.2.2.1⟩
def aI7 (d:List gm) (e:Int) (f:List gJ) (g i:Int):Option sD:=(ik bQ).q105 d e f g i
def aGn:fF:=⟨90,xf,[],[],fun x y=>aI7 x.1 x.2.1 x.2.2.1 x.2.2.2.1 x.2.2.2.2.1⟩
def aI9 (d:List gm) (e:Int) (f:List gJ) (g i:Int):Option sD:=(ik bQ).q148 d e f g i
def aGB:fF:=⟨90,xf,[],[],fun x y=>aI9 x.1 x.2.1 x.2.2.1 x.2.2.2.1 x.2.2.2.2.1⟩
def aJb (d:List gm) (e:Int) (f:List gJ) (g i:Int):Option sD:=(ik bQ).q177 d e f g i
def aGI:fF:=⟨90,xf,[],[],fun x y=>aJb x.1 x.2.1 x.2.2.1 x.2.2.2.1 x.2.2.2.2.1⟩
def aJe (d:List gm) (e:Int) (f:List gJ) (g i:Int):Option sD:=(ik bQ).q222 d e f g i
def aGT:fF:=⟨90,xf,[],[],fun x y=>aJe x.1 x.2.1 x.2.2.1 x.2.2.2.1 x.2.2.2.2.1⟩
def aJd (d:List gm) (e:Int) (f:List gJ) (g i:Int):Option sD:=(ik bQ).q219 d e f g i
def aGS:fF:=⟨90,xf,[],[],fun x y=>aJd x.1 x.2.1 x.2.2.1 x.2.2.2.1 x.2.2.2.2.1⟩
def aJp (d:List gm) (e:Int) (f:List gJ) (g i:Int):Option sD:=(ik bQ).q268 d e f g i
def aHd:fF:=⟨90,xf,[],[],fun x y=>aJp x.1 x.2.1 x.2.2.1 x.2.2.2.1 x.2.2.2.2.1⟩
def aJj (d:List gm) (e:Int) (f:List gJ) (g i:Int):Option sD:=(ik bQ).q251 d e f g i
def aG6:fF:=⟨90,xf,[],[],fun x y=>aJj x.1 x.2.1 x.2.2.1 x.2.2.2.1 x.2.2.2.2.1⟩
def aJk (d:List gm) (e:Int) (f:List gJ) (g i:Int):Option sD:=(ik bQ).q252 d e f g i
def aG7:fF:=⟨90,xf,[],[],fun x y=>aJk x.1 x.2.1 x.2.2.1 x.2.2.2.1 x.2.2.2.2.1⟩
def aJl (d:List gm) (e:Int) (f:List gJ) (g i:Int):Option sD:=(ik bQ).q253 d e f g i
def aG8:fF:=⟨90,xf,[],[],fun x y=>aJl x.1 x.2.1 x.2.2.1 x.2.2.2.1 x.2.2.2.2.1⟩
def aJm (d:List gm) (e:Int) (f:List gJ) (g i:Int):Option sD:=(ik bQ).q254 d e f g i
def aG9:fF:=⟨90,xf,[],[],fun x y=>aJm x.1 x.2.1 x.2.2.1 x.2.2.2.1 x.2.2.2.2.1⟩
def aJn (d:List gm) (e:Int) (f:List gJ) (g i:Int):Option sD:=(ik bQ).q255 d e f g i
def aHa:fF:=⟨90,xf,[],[],fun x y=>aJn x.1 x.2.1 x.2.2.1 x.2.2.2.1 x.2.2.2.2.1⟩
def aJo (d:List gm) (e:Int) (f:List gJ) (g i:Int):Option sD:=(ik bQ).q256 d e f g i
def sum256:fF:=⟨90,xf,[],[],fun x y=>aJo x.1 x.2.1 x.2.2.1 x.2.2.2.1 x.2.2.2.2.1⟩
def aJr (d:List gm) (e:Int) (f:List gJ) (g i:Int):Option sD:=(ik bQ).q270 d e f g i
def aHf:fF:=⟨90,xf,[],[],fun x y=>aJr x.1 x.2.1 x.2.2.1 x.2.2.2.1 x.2.2.2.2.1⟩
def aJq (d:List gm) (e:Int) (f:List gJ) (g i:Int):Option sD:=(ik bQ).q269 d e f g i
def aHe:fF:=⟨90,xf,[],[],fun x y=>aJq x.1 x.2.1 x.2.2.1 x.2.2.2.1 x.2.2.2.2.1⟩
theorem aaa (q:iI) (d:H71 q):H71 ⟨as6 q,adn q,RZ q,as2 q,as3 q,aIV q,as5 q,aIZ q,aI0 q,aI1 q,aI2 q,aI3 q,aI4 q,aI6 q,aI5 q⟩:=⟨sB (asA q d),sB (ane q d),sB (anw q d),sB (anD q d),sB (anM q d),sB (anL q d),sB (an2 q d),sB (anV q d),sB (anW q d),sB (anX q d),sB (anY q d),sB (anZ q d),sB (an0 q d),sB (an4 q d),sB (an3 q d)⟩
theorem oD: ∀r,H71 (ik r)
 |0=>⟨mY fun _ _=>rfl,mY fun _ _=>rfl,mY fun _ _=>rfl,mY fun _ _=>rfl,mY fun _ _=>rfl,mY fun _ _=>rfl,mY fun _ _=>rfl,mY fun _ _=>rfl,mY fun _ _=>rfl,mY fun _ _=>rfl,mY fun _ _=>rfl,mY fun _ _=>rfl,mY fun _ _=>rfl,mY fun _ _=>rfl,mY fun _ _=>rfl⟩
 |r+1=>aaa _ (oD r)
theorem axU:dL prog 71 aC4:=(oD bQ).1
theorem aHH:dL prog 105 aGn:=(oD bQ).2.1
theorem aHJ:dL prog 148 aGB:=(oD bQ).2.2.1
theorem aHL:dL prog 177 aGI:=(oD bQ).2.2.2.1
theorem aHO:dL prog 222 aGT:=(oD bQ).2.2.2.2.1
theorem aHN:dL prog 219 aGS:=(oD bQ).2.2.2.2.2.1
theorem aHZ:dL prog 268 aHd:=(oD bQ).2.2.2.2.2.2.1
theorem aHT:dL prog 251 aG6:=(oD bQ).2.2.2.2.2.2.2.1
theorem aHU:dL prog 252 aG7:=(oD bQ).2.2.2.2.2.2.2.2.1
theorem aHV:dL prog 253 aG8:=(oD bQ).2.2.2.2.2.2.2.2.2.1
theorem aHW:dL prog 254 aG9:=(oD bQ).2.2.2.2.2.2.2.2.2.2.1
theorem aHX:dL prog 255 aHa:=(oD bQ).2.2.2.2.2.2.2.2.2.2.2.1
theorem aHY:dL prog 256 sum256:=(oD bQ).2.2.2.2.2.2.2.2.2.2.2.2.1
theorem aH1:dL prog 270 aHf:=(oD bQ).2.2.2.2.2.2.2.2.2.2.2.2.2.1
theorem aH0:dL prog 269 aHe:=(oD bQ).2.2.2.2.2.2.2.2.2.2.2.2.2.2
noncomputable def b42:Code:=(f42.body).getD .skip
noncomputable def aBV:Code:=cA (cA (cB (b42)))
def aCn:eQ:=⟨[0,2,100001],[],[],[],[],[]⟩
def alc:SQ:=⟨us [co,.u,b9] 26,c6,dg⟩
def ahP:SQ:=⟨us [] 29,c6,dg⟩
def aia:SQ:=⟨us [] 29,c6,[]⟩
def UR {g:Type} (i:Bool->(List gm)->Int->Int->Int->(List gJ)->Option g) (u:(List gm)->Int->Int->Int->(List gJ)->Option g) (v:Option g) (o:Bool) (j:List gm) (l p q:Int) (s:List gJ):Option g:=cond (gY l (bM j)) (bJ (uG j l s p q [110]) fun e=>cond e.2.1 (i o e.1.1 e.1.2.1 e.1.2.2.2.1 e.1.2.2.2.2.1 e.1.2.2.1)<|cond (!o) (bJ (Vw e.1.1 e.1.2.1 e.1.2.2.1 e.1.2.2.2.1 e.1.2.2.2.2.1) fun d=>cond d.2.1 (cond (bV 2 2) (cond (bV d.1.2.1 d.1.2.1) (cond (bV d.1.2.2.2.1 d.1.2.2.2.1) (cond (dY (bT d.1.2.2.1 [(2,(d.1.2.1,(0,(d.1.2.2.2.1,()))))]) 32) (cond (bV 2 2) (cond (bV d.1.2.1 d.1.2.1) (cond (bV d.1.2.2.2.1 d.1.2.2.2.1) (cond ((bV 2 2)&&((bV d.1.2.1 d.1.2.1)&&((bV 0 0)&&((bV d.1.2.2.2.1 d.1.2.2.2.1)&&true)))) (bJ (azd d.1.1 d.1.2.1 (bT d.1.2.2.1 [(2,(d.1.2.1,(0,(d.1.2.2.2.1,()))))]) (bM d.1.2.2.1) d.1.2.2.2.2.1) fun f=>cond (fV f.1.2.2.1 (bM d.1.2.2.1)) (cond (mi (dD (bM d.1.2.2.1)) f.1.2.2.1) (i true f.1.1 f.1.2.1 d.1.2.2.2.1 f.1.2.2.2.2.1 (iw f.1.2.2.1 (dD (bM d.1.2.2.1)) ((dK f.1.2.2.1 (0,(0,(0,(0,())))) (dD (bM d.1.2.2.1))).1,((dK f.1.2.2.1 (0,(0,(0,(0,())))) (dD (bM d.1.2.2.1))).2.1,(f.1.2.1,((dK f.1.2.2.1 (0,(0,(0,(0,())))) (dD (bM d.1.2.2.1))).2.2.2.1,())))))) a7) a7) a7) a7) a7) a7) a7) a7) a7) a7)<|bJ (SI d.1.1 d.1.2.1 d.1.2.2.1 d.1.2.2.2.1 d.1.2.2.2.2.1 17) fun f=>i false f.1.1 f.1.2.1 f.1.2.2.2.1 f.1.2.2.2.2.1 f.1.2.2.1)<|bJ (SI e.1.1 e.1.2.1 e.1.2.2.1 e.1.2.2.2.1 e.1.2.2.2.2.1 17) fun d=>i false d.1.1 d.1.2.1 d.1.2.2.2.1 d.1.2.2.2.2.1 d.1.2.2.1)<|u j l p q s
def MJ:Nat->Bool->(List gm)->Int->Int->Int->(List gJ)->Option (ahP.den⊕aia.den)
 |0,_,_,_,_,_,_=>a7
 |n+1,d,e,f,g,i,j=>UR (MJ n) (fun l o p q s=>a6 (.inl ((),((),()),((l,o,p,q,()),s,())))) (a6 (.inr ((),((),()),()))) d e f g i j
def aFm (n:Nat) (v:alc.den):=bk (MJ n) v
noncomputable def au0:dE:=fG aCn alc ahP aia (.exit 0) (aFm bQ) 6
def aEc (e:List gm) (f:Int) (g:List gJ) (i j:Int):Option sD:=bJ (MJ bQ false e f i j g) fun l=>dW l (fun d=>a6 ((d.2.2.1.1,(d.2.2.1.2.1,(d.2.2.2.1,(d.2.2.1.2.2.1,(d.2.2.1.2.2.2.1,()))))),())) (fun o=>a7)
def aKC:fF:=⟨90,xf,[],[],fun x y=>aEc x.1 x.2.1 x.2.2.1 x.2.2.2.1 x.2.2.2.2.1⟩
noncomputable def asb:Env:=gz prog tt [] [(42,1,aCn),(42,600006,uI),(41,600003,jR)] [(42,1,au0)] [] [(69,EU),(70,X0),(71,aC4),(72,amS)]
def av5 {d:Type} (a:alc.den->Option d) (b:ahP.den->Option d) (c:aia.den->Option d) (v:alc.den):Option d:=bk (UR (bj a) (bl b) (c ((),((),()),()))) v
theorem aFQ:dV asb 42 aBV au0:=lg (av5) (h2:=by intros;simp only[av5,bj,bl,bk,UR,dh,di,bI,cZ,dm])
theorem aJV:dO asb 42 b42:=nM [aBV] (aD (fM (aFQ)) aN)
theorem asc:eF asb:=eB aN [42] (aD ⟨f42,b42,by kernel_rfl,by kernel_rfl,aJV⟩ aN) (hx:=(aD mG (aD EW (aD axU (aD Lu aN)))))
theorem axH:dL prog 42 aKC:=sB asc
def aog (e:List gm):Option ((List gJ)×Unit):=cond (bV 1 1) (cond (bV 0 0) (cond (bV (-1) (-1)) (cond (dY [(1,(0,(0,((-1),()))))] 32) (cond (bV 1 1) (cond (bV 0 0) (cond (bV (-1) (-1)) (cond ((bV 1 1)&&((bV 0 0)&&((bV 0 0)&&((bV (-1) (-1))&&true)))) (bJ (aEc e 0 [(1,(0,(0,((-1),()))))] 0 0) fun d=>cond (fV d.1.2.2.1 0) (cond (mi (dD 0) d.1.2.2.1) (a6 ((iw d.1.2.2.1 (dD 0) ((dK d.1.2.2.1 (0,(0,(0,(0,())))) (dD 0)).1,((dK d.1.2.2.1 (0,(0,(0,(0,())))) (dD 0)).2.1,(d.1.2.1,((dK d.1.2.2.1 (0,(0,(0,(0,())))) (dD 0)).2.2.2.1,()))))),())) a7) a7) a7) a7) a7) a7) a7) a7) a7) a7
def axs:Sum:=⟨[oI],[(.list nO,false)],fun x=>aog x.1⟩
theorem afF:dR prog 23 axs:=qC [(23,600002,⟨[3],[],[],[],[],[]⟩),(41,600003,jR)] aN (sF axH aN)
noncomputable def b85:Code:=(f85.body).getD .skip
noncomputable def aB5:Code:=cA (cA (cB (cA (cB (cB (cB (b85)))))))
def aCw:eQ:=⟨[3,4,100005],[],[],[],[2],[]⟩
def aln:SP:=⟨us [.u,.u,.u,bO,bR] 25,[]⟩
def ahY:SP:=⟨us [] 30,[]⟩
def aij:SP:=⟨us [.u,.u,b9] 27,[]⟩
def acx {f:Type} (g:bZ->Int->Option f) (i:Option f) (j:Bool->Option f) (e:bZ) (d:Int):Option f:=cond (leI (dw .i64 d (bM e)) 65) (cond (fH (bM [32,33,32,123,32,125,32,99,97,115,101,32,100,111,32,100,111,110,101,32,101,108,105,102,32,101,108,115,101,32,101,115,97,99,32,102,105,32,102,111,114,32,105,102,32,105,110,32,116,104,101,110,32,117,110,116,105,108,32,119,104,105,108,101,32]) d (dw .i64 d (bM e))) (cond (fP (sub [32,33,32,123,32,125,32,99,97,115,101,32,100,111,32,100,111,110,101,32,101,108,105,102,32,101,108,115,101,32,101,115,97,99,32,102,105,32,102,111,114,32,105,102,32,105,110,32,116,104,101,110,32,117,110,116,105,108,32,119,104,105,108,101,32] d (dw .i64 d (bM e))) e) (j true)<|g e (dw .i64 d 1)) a7) i
def TG:Nat->bZ->Int->Option (ahY.den⊕aij.den)
 |0,_,_=>a7
 |n+1,d,e=>acx (TG n) (a6 (.inl ((),()))) (fun f=>a6 (.inr ((f,()),()))) d e
def aFw (n:Nat) (v:aln.den):=TG n v.1.1 v.1.2.1
noncomputable def ava:dE:=fU aCw aln ahY aij (.exit 0) (aFw bQ) 6
def atj (d:bZ):Option qG:=cond (bV (bM d) 0) (a6 (false,()))<|bJ (GN 32 d) fun e=>cond e.1 (a6 (false,()))<|cond (gV [32] d) (cond (gV (bT [32] d) [32]) (bJ (TG bQ (bT (bT [32] d) [32]) 0) fun f=>dW f (fun i=>a6 (false,())) (fun g=>a6 (g.1.1,()))) a7) a7
def aC6:Sum:=⟨[.str],LG,fun x=>atj x.1⟩
noncomputable def asE:Env:=iO prog tt 85 [(56,aC0)] [(5,aCw)] [(5,ava)]
def awh {d:Type} (a:aln.den->Option d) (b:ahY.den->Option d) (c:aij.den->Option d) (v:aln.den):Option d:=acx (aL a) (b ((),())) (aE c) v.1.1 v.1.2.1
theorem aF0:dV asE 85 aB5 ava:=xh (awh) (h2:=by intros;simp only[awh,aL,aE,acx,dh,di,bI,cZ,dm])
theorem aJ7:dO asE 85 b85:=nM [aB5] (aD (fM (aF0)) aN)
theorem asF:eF asE:=eA f85 (aD ET aN) (aJ7)
theorem axW:dR prog 85 aC6:=sA asF
noncomputable def b48:Code:=(Tryz.f48.body).getD .skip
noncomputable def aBX:Code:=cA (cA (cB (cA (cA (cB (cA (cB (cB (cB (b48))))))))))
def aCp:eQ:=⟨[1,3,100007],[],[],[],[2],[]⟩
def ale:SP:=⟨us [.u,cJ,.u,bR] 59,[.box 1000001 66 [bR,bO,bR,bR]]⟩
def ahR:SP:=⟨us [] 63,[]⟩
def aic:SP:=⟨us eK 60,[]⟩
def acu {e:Type} (g:Int->Int->bZ->Int->Int->Option e) (i:Option e) (j:bZ->Option e) (d l:Int) (f:bZ) (o p:Int):Option e:=cond (leI d 17) (bJ (YY d) fun q=>cond (fP q.1 f) (cond (fH (bM [97,111,121,60,60,60,60,60,60,60,60,60,38,59,124,40,41]) (eU .i64 d 1) d) (j (sub [97,111,121,60,60,60,60,60,60,60,60,60,38,59,124,40,41] (eU .i64 d 1) d)) a7)<|g (dw .i64 d 1) l f o p) i
def TF:Nat->Int->Int->bZ->Int->Int->Option (ahR.den⊕aic.den)
 |0,_,_,_,_,_=>a7
 |n+1,d,e,f,g,i=>acu (TF n) (a6 (.inl ((),()))) (fun j=>a6 (.inr ((j,()),()))) d e f g i
def aFo (n:Nat) (v:ale.den):=TF n v.1.1 v.2.1.1 v.2.1.2.1 v.2.1.2.2.1 v.2.1.2.2.2.1
noncomputable def au2:dE:=fU aCp ale ahR aic (.exit 0) (aFo bQ) 6
def Ir (d:gm):Option taU:=cond (bV d.1 2) (a6 ([110],()))<|cond (bV d.1 5) (a6 ([35],()))<|cond (bV d.1 4) (bJ (TF bQ 1 d.1 d.2.1 d.2.2.1 d.2.2.2.1) fun e=>dW e (fun g=>a6 ([63],())) (fun f=>a6 (f.1.1,())))<|cond (!(bV d.1 6)) (a6 ([63],()))<|bJ (atj d.2.1) fun e=>cond (!e.1) (a6 ([120],()))<|cond (bV (bM d.2.1) 1) (a6 (d.2.1,()))<|cond (fP d.2.1 [105,102]) (a6 ([105],()))<|cond (fP d.2.1 [105,110]) (a6 ([107],()))<|cond (fP d.2.1 [101,108,115,101]) (a6 ([108],()))<|cond (fP d.2.1 [101,115,97,99]) (a6 ([122],()))<|cond (fP d.2.1 [102,111,114]) (a6 ([114],()))<|cond (fP d.2.1 [100,111,110,101]) (a6 ([103],()))<|cond (fP d.2.1 [117,110,116,105,108]) (a6 ([119],()))<|cond (fH (bM d.2.1) 0 1) (a6 ((sub d.2.1 0 1),())) a7
def aCY:Sum:=⟨[Vk],tzF,fun x=>Ir x.1⟩
noncomputable def asj:Env:=iO prog tt 48 [(85,aC6),(84,amT)] [(7,aCp)] [(7,au2)]
def av7 {d:Type} (a:ale.den->Option d) (b:ahR.den->Option d) (c:aic.den->Option d) (v:ale.den):Option d:=acu (fun e f g i j=>a ((e,()),((f,g,i,j,()),()))) (b ((),())) (aE c) v.1.1 v.2.1.1 v.2.1.2.1 v.2.1.2.2.1 v.2.1.2.2.2.1
theorem aFS:dV asj 48 aBX au2:=xh (av7) (h2:=by intros;simp only[av7,aE,acu,dh,di,bI,cZ,dm])
theorem aJY:dO asj 48 b48:=nM [aBX] (aD (fM (aFS)) aN)
theorem asl:eF asj:=eA Tryz.f48 (aD axW (aD U5 aN)) (aJY)
theorem axK:dR prog 48 aCY:=sA asl
def atl (d:Int):Option qG:=cond (leI 9 d) (cond (leI d 14) (a6 (true,()))<|some ((bV d 16),()))<|some ((bV d 16),())
def aKG:Sum:=⟨[dC],LG,fun x=>atl x.1⟩
theorem afI:dR prog 86 aKG:=qA f86 [] aN
def GM (i:List gm) (j:bZ) (g:List gJ) (d e l f:Int):Option (taF×Dc):=cond (bV f f) (cond (bV d d) (cond (bV e e) (cond (dY (bT g [(f,(d,(0,(e,()))))]) 32) (cond (bV f f) (cond (bV d d) (cond (bV e e) (cond ((bV f f)&&((bV d d)&&((bV 0 0)&&((bV e e)&&true)))) (bJ (atl f) fun o=>cond o.1 (a6 ((i,(j,((bT g [(f,(d,(0,(e,()))))]),(d,((eU .i64 (bM (bT g [(f,(d,(0,(e,()))))])) 1),((dw .i64 l 1),())))))),(e,())))<|some ((i,(j,((bT g [(f,(d,(0,(e,()))))]),(d,((eU .i64 (bM (bT g [(f,(d,(0,(e,()))))])) 1),(l,())))))),(e,()))) a7) a7) a7) a7) a7) a7) a7) a7
def Po:fF:=⟨100,Ja,[dC],[dC],fun x y=>GM x.1 x.2.1 x.2.2.1 x.2.2.2.1 x.2.2.2.2.1 x.2.2.2.2.2.1 y.1⟩
theorem oQ:dL prog 49 Po:=qB [] (sE afI aN)
def qg (f:List gm) (d:bZ) (g:List gJ) (e i j:Int) (l:bZ):Option (taF×qG):=cond (gY e (bM d)) (cond (fV d e) (bJ (GN (bY d e) l) fun o=>a6 ((f,(d,(g,(e,(i,(j,())))))),(o.1,()))) a7)<|some ((f,(d,(g,(e,(i,(j,())))))),(false,()))
def H7:fF:=⟨100,Ja,[.str],[.bool],fun x y=>qg x.1 x.2.1 x.2.2.1 x.2.2.2.1 x.2.2.2.2.1 x.2.2.2.2.2.1 y.1⟩
theorem kM:dL prog 50 H7:=qB [] (sE ET aN)
def WF (f:List gm) (g:bZ) (i:List gJ) (j l o:Int):Option (taF×qG):=bJ (qg f g i j l o [60]) fun e=>cond e.2.1 (a6 ((e.1.1,(e.1.2.1,(e.1.2.2.1,(e.1.2.2.2.1,(e.1.2.2.2.2.1,(e.1.2.2.2.2.2.1,())))))),(true,())))<|bJ (qg e.1.1 e.1.2.1 e.1.2.2.1 e.1.2.2.2.1 e.1.2.2.2.2.1 e.1.2.2.2.2.2.1 [35]) fun d=>cond d.2.1 (cond (gY (dw .i64 d.1.2.2.2.1 1) (bM d.1.2.1)) (cond (fV d.1.2.1 (dw .i64 d.1.2.2.2.1 1)) (a6 ((d.1.1,(d.1.2.1,(d.1.2.2.1,(d.1.2.2.2.1,(d.1.2.2.2.2.1,(d.1.2.2.2.2.2.1,())))))),((bV (bY d.1.2.1 (dw .i64 d.1.2.2.2.1 1)) 60),()))) a7)<|some ((d.1.1,(d.1.2.1,(d.1.2.2.1,(d.1.2.2.2.1,(d.1.2.2.2.2.1,(d.1.2.2.2.2.2.1,())))))),(false,())))<|some ((d.1.1,(d.1.2.1,(d.1.2.2.1,(d.1.2.2.2.1,(d.1.2.2.2.2.1,(d.1.2.2.2.2.2.1,())))))),(false,()))
def aiC:fF:=⟨100,Ja,[],[.bool],fun x y=>WF x.1 x.2.1 x.2.2.1 x.2.2.2.1 x.2.2.2.2.1 x.2.2.2.2.2.1⟩
theorem NK:dL prog 119 aiC:=qB [] aN (sF kM aN)
def Sv (e:List gm) (f:bZ) (g:List gJ) (i j l:Int):Option (taF×qG):=bJ (qg e f g i j l [123,40,105,119,114,99]) fun d=>cond d.2.1 (a6 ((d.1.1,(d.1.2.1,(d.1.2.2.1,(d.1.2.2.2.1,(d.1.2.2.2.2.1,(d.1.2.2.2.2.2.1,())))))),((gY d.1.2.2.2.2.2.1 200),())))<|some ((d.1.1,(d.1.2.1,(d.1.2.2.1,(d.1.2.2.2.1,(d.1.2.2.2.2.1,(d.1.2.2.2.2.2.1,())))))),(false,()))
def awU:fF:=⟨100,Ja,[],[.bool],fun x y=>Sv x.1 x.2.1 x.2.2.1 x.2.2.2.1 x.2.2.2.2.1 x.2.2.2.2.2.1⟩
theorem XI:dL prog 120 awU:=qB [] aN (sF kM aN)
def atm (g:List gm) (i:bZ) (j:List gJ) (l o p:Int):Option (taF×qG):=bJ (qg g i j l o p [120]) fun d=>cond d.2.1 (a6 ((d.1.1,(d.1.2.1,(d.1.2.2.1,(d.1.2.2.2.1,(d.1.2.2.2.2.1,(d.1.2.2.2.2.2.1,())))))),(true,())))<|bJ (WF d.1.1 d.1.2.1 d.1.2.2.1 d.1.2.2.2.1 d.1.2.2.2.2.1 d.1.2.2.2.2.2.1) fun e=>cond e.2.1 (a6 ((e.1.1,(e.1.2.1,(e.1.2.2.1,(e.1.2.2.2.1,(e.1.2.2.2.2.1,(e.1.2.2.2.2.2.1,())))))),(true,())))<|bJ (Sv e.1.1 e.1.2.1 e.1.2.2.1 e.1.2.2.2.1 e.1.2.2.2.2.1 e.1.2.2.2.2.2.1) fun f=>a6 ((f.1.1,(f.1.2.1,(f.1.2.2.1,(f.1.2.2.2.1,(f.1.2.2.2.2.1,(f.1.2.2.2.2.2.1,())))))),(f.2.1,()))
def aC7:fF:=⟨100,Ja,[],[.bool],fun x y=>atm x.1 x.2.1 x.2.2.1 x.2.2.2.1 x.2.2.2.2.1 x.2.2.2.2.2.1⟩
theorem afJ:dL prog 87 aC7:=qB [] aN (sF kM (sF NK (sF XI aN)))
def YW (f:List gm) (g:bZ) (i:List gJ) (j l o:Int):Option (taF×qG):=bJ (qg f g i j l o [33]) fun d=>cond d.2.1 (a6 ((d.1.1,(d.1.2.1,(d.1.2.2.1,(d.1.2.2.2.1,(d.1.2.2.2.2.1,(d.1.2.2.2.2.2.1,())))))),(true,())))<|bJ (atm d.1.1 d.1.2.1 d.1.2.2.1 d.1.2.2.2.1 d.1.2.2.2.2.1 d.1.2.2.2.2.2.1) fun e=>a6 ((e.1.1,(e.1.2.1,(e.1.2.2.1,(e.1.2.2.2.1,(e.1.2.2.2.2.1,(e.1.2.2.2.2.2.1,())))))),(e.2.1,()))
def XZ:fF:=⟨100,Ja,[],[.bool],fun x y=>YW x.1 x.2.1 x.2.2.1 x.2.2.2.1 x.2.2.2.2.1 x.2.2.2.2.2.1⟩
theorem ER:dL prog 51 XZ:=qB [] aN (sF kM (sF afJ aN))
end
section
open Option renaming some → a6, none → a7
open Tryz
open Go.RowKit
def L8 (d:List gJ) (e f:Int):=iw d (dD e) ((dK d (0,(0,(0,(0,())))) (dD e)).1,((dK d (0,(0,(0,(0,())))) (dD e)).2.1,(f,((dK d (0,(0,(0,(0,())))) (dD e)).2.2.2.1,()))))
def wK (g:List gm) (i:bZ) (e:List gJ) (f d j l:Int):Option Dv:=cond (fV e d) (cond (mi (dD d) e) (cond (fV (L8 e d f) d) (cond (mi (dD d) (L8 e d f)) (bJ (atl (dK (L8 e d f) (0,(0,(0,(0,())))) (dD d)).1) fun o=>cond o.1 (a6 ((g,(i,((L8 e d f),(f,(l,((eU .i64 j 1),())))))),()))<|some ((g,(i,((L8 e d f),(f,(l,(j,())))))),())) a7) a7) a7) a7
def Pq:fF:=⟨100,Ja,[dC],[],fun x y=>wK x.1 x.2.1 x.2.2.1 x.2.2.2.1 x.2.2.2.2.1 x.2.2.2.2.2.1 y.1⟩
theorem oU:dL prog 54 Pq:=qB [] (sE afI aN)
noncomputable def b89:Code:=(f89.body).getD .skip
noncomputable def aB7:Code:=cA (cA (cA (cB (cB (b89)))))
def alp:SQ:=⟨us ey 13,c6,bE⟩
def ah0:SQ:=⟨us [.u,.u,.u,bR] 13,c6,bE⟩
def ail:SQ:=⟨us d6 14,c6,[]⟩
def acz {e:Type} (g i:Int->(List gm)->bZ->Int->Int->Int->(List gJ)->Option e) (u:Int->Option e) (f:Int) (j:List gm) (l:bZ) (o p q:Int) (s:List gJ):Option e:=bJ (qg j l s o p q [110]) fun d=>cond d.2.1 (g (dw .i64 f 1) d.1.1 d.1.2.1 (dw .i64 d.1.2.2.2.1 1) d.1.2.2.2.2.1 d.1.2.2.2.2.2.1 d.1.2.2.1)<|i f d.1.1 d.1.2.1 d.1.2.2.2.1 d.1.2.2.2.2.1 d.1.2.2.2.2.2.1 d.1.2.2.1
def TL:Nat->Int->(List gm)->bZ->Int->Int->Int->(List gJ)->Option (ah0.den⊕ail.den)
 |0,_,_,_,_,_,_,_=>a7
 |n+1,d,e,f,g,i,j,l=>acz (TL n) (fun o p q s u v x=>a6 (.inl ((o,()),((),()),((p,q,s,u,v,()),x,())))) (fun y=>a6 (.inr ((y,()),((),()),()))) d e f g i j l
def aFy (n:Nat) (v:alp.den):=bs (TL n) v
noncomputable def avc:dE:=fG Za alp ah0 ail (.exit 0) (aFy bQ) 6
def Bv (e:List gm) (f:bZ) (g:List gJ) (i j l:Int):Option (taF×Dc):=bJ (TL bQ 0 e f i j l g) fun o=>dW o (fun d=>a6 ((d.2.2.1.1,(d.2.2.1.2.1,(d.2.2.2.1,(d.2.2.1.2.2.1,(d.2.2.1.2.2.2.1,(d.2.2.1.2.2.2.2.1,())))))),(d.1.1,()))) (fun p=>a7)
def Pv:fF:=⟨100,Ja,[],[dC],fun x y=>Bv x.1 x.2.1 x.2.2.1 x.2.2.2.1 x.2.2.2.2.1 x.2.2.2.2.2.1⟩
noncomputable def asI:Env:=gz prog tt [] [(89,2,Za)] [(89,2,avc)] [] [(50,H7)]
def awj {d:Type} (a:alp.den->Option d) (b:ah0.den->Option d) (c:ail.den->Option d) (v:alp.den):Option d:=bs (acz (br a) (br b) (fun e=>c ((e,()),((),()),()))) v
theorem aF2:dV asI 89 aB7 avc:=lg (awj) (h2:=by intros;simp only[awj,br,bs,acz,dh,di,bI,cZ,dm])
theorem aJ9:dO asI 89 b89:=nM [aB7] (aD (fM (aF2)) aN)
theorem asJ:eF asI:=eB aN [89] (aD ⟨f89,b89,by kernel_rfl,by kernel_rfl,aJ9⟩ aN) (hx:=(aD kM aN))
theorem wW:dL prog 89 Pv:=sB asJ
def uw (f:List gm) (g:bZ) (i:List gJ) (j l o:Int):Option Dv:=bJ (GM f g i j l o 18) fun d=>bJ (wK d.1.1 d.1.2.1 d.1.2.2.1 d.1.2.2.2.1 d.1.2.2.2.2.1 d.1.2.2.2.2.2.1 d.2.1) fun e=>a6 ((e.1.1,(e.1.2.1,(e.1.2.2.1,(e.1.2.2.2.1,(e.1.2.2.2.2.1,(e.1.2.2.2.2.2.1,())))))),())
def U2:fF:=⟨100,Ja,[],[],fun x y=>uw x.1 x.2.1 x.2.2.1 x.2.2.2.1 x.2.2.2.2.1 x.2.2.2.2.2.1⟩
theorem vU:dL prog 122 U2:=qB [] aN (sF oQ (sF oU aN))
def L6 (f:List gm) (g:bZ) (i:List gJ) (j l o p:Int):Option Dv:=bJ (GM f g i j l o p) fun d=>bJ (wK d.1.1 d.1.2.1 d.1.2.2.1 (dw .i64 d.1.2.2.2.1 1) d.1.2.2.2.2.1 d.1.2.2.2.2.2.1 d.2.1) fun e=>a6 ((e.1.1,(e.1.2.1,(e.1.2.2.1,(e.1.2.2.2.1,(e.1.2.2.2.2.1,(e.1.2.2.2.2.2.1,())))))),())
def amR:fF:=⟨100,Ja,[dC],[],fun x y=>L6 x.1 x.2.1 x.2.2.1 x.2.2.2.1 x.2.2.2.2.1 x.2.2.2.2.2.1 y.1⟩
theorem Lt:dL prog 53 amR:=qB [] aN (sF oQ (sF oU aN))
def uy (f:List gm) (g:bZ) (i:List gJ) (j l o:Int) (p:bZ):Option Dv:=bJ (qg f g i j l o p) fun d=>cond d.2.1 (a6 ((d.1.1,(d.1.2.1,(d.1.2.2.1,((dw .i64 d.1.2.2.2.1 1),(d.1.2.2.2.2.1,(d.1.2.2.2.2.2.1,())))))),()))<|bJ (uw d.1.1 d.1.2.1 d.1.2.2.1 d.1.2.2.2.1 d.1.2.2.2.2.1 d.1.2.2.2.2.2.1) fun e=>a6 ((e.1.1,(e.1.2.1,(e.1.2.2.1,(e.1.2.2.2.1,(e.1.2.2.2.2.1,(e.1.2.2.2.2.2.1,())))))),())
def U3:fF:=⟨100,Ja,[.str],[],fun x y=>uy x.1 x.2.1 x.2.2.1 x.2.2.2.1 x.2.2.2.2.1 x.2.2.2.2.2.1 y.1⟩
theorem Gx:dL prog 187 U3:=qB [] aN (sF kM (sF vU aN))
def Di (e:List gm) (g:bZ) (i:List gJ) (f j l:Int):Option Dv:=cond (gY f (bM e)) (cond (fV e f) (cond (bV (dJ e (0,([],(0,(0,())))) f).1 6) (bJ (L6 e g i f j l 7) fun d=>a6 ((d.1.1,(d.1.2.1,(d.1.2.2.1,(d.1.2.2.2.1,(d.1.2.2.2.2.1,(d.1.2.2.2.2.2.1,())))))),()))<|bJ (uw e g i f j l) fun d=>a6 ((d.1.1,(d.1.2.1,(d.1.2.2.1,(d.1.2.2.2.1,(d.1.2.2.2.2.1,(d.1.2.2.2.2.2.1,())))))),())) a7)<|bJ (uw e g i f j l) fun d=>a6 ((d.1.1,(d.1.2.1,(d.1.2.2.1,(d.1.2.2.2.1,(d.1.2.2.2.2.1,(d.1.2.2.2.2.2.1,())))))),())
def axt:fF:=⟨100,Ja,[],[],fun x y=>Di x.1 x.2.1 x.2.2.1 x.2.2.2.1 x.2.2.2.2.1 x.2.2.2.2.2.1⟩
theorem XW:dL prog 234 axt:=qB [] aN (sF Lt (sF vU aN))
def adF (i:List gm) (j:bZ) (l:List gJ) (o p q:Int):Option Dv:=bJ (GM i j l o p q 8) fun g=>bJ (qg g.1.1 g.1.2.1 g.1.2.2.1 g.1.2.2.2.1 g.1.2.2.2.2.1 g.1.2.2.2.2.2.1 [35]) fun d=>cond d.2.1 (bJ (Di d.1.1 d.1.2.1 d.1.2.2.1 (dw .i64 (dw .i64 d.1.2.2.2.1 1) 1) d.1.2.2.2.2.1 d.1.2.2.2.2.2.1) fun e=>bJ (wK e.1.1 e.1.2.1 e.1.2.2.1 e.1.2.2.2.1 e.1.2.2.2.2.1 e.1.2.2.2.2.2.1 g.2.1) fun f=>a6 ((f.1.1,(f.1.2.1,(f.1.2.2.1,(f.1.2.2.2.1,(f.1.2.2.2.2.1,(f.1.2.2.2.2.2.1,())))))),()))<|bJ (Di d.1.1 d.1.2.1 d.1.2.2.1 (dw .i64 d.1.2.2.2.1 1) d.1.2.2.2.2.1 d.1.2.2.2.2.2.1) fun e=>bJ (wK e.1.1 e.1.2.1 e.1.2.2.1 e.1.2.2.2.1 e.1.2.2.2.2.1 e.1.2.2.2.2.2.1 g.2.1) fun f=>a6 ((f.1.1,(f.1.2.1,(f.1.2.2.1,(f.1.2.2.2.1,(f.1.2.2.2.2.1,(f.1.2.2.2.2.2.1,())))))),())
def aiG:fF:=⟨100,Ja,[],[],fun x y=>adF x.1 x.2.1 x.2.2.1 x.2.2.2.1 x.2.2.2.2.1 x.2.2.2.2.2.1⟩
theorem XR:dL prog 188 aiG:=qB [] aN (sF oQ (sF kM (sF oU (sF XW aN))))
noncomputable def aIs:Code:=(f189.body).getD .skip
noncomputable def aq6:Code:=cA (cA (cB (cA (cB (aIs)))))
def auc:eQ:=⟨[0,3,100002],[],[],[],[2],[]⟩
def aaf:SP:=⟨us [bO,.u,.u,bR] 17,[]⟩
def aaR:SP:=⟨us [] 21,[]⟩
def abw:SP:=⟨us d6 18,[]⟩
def QK {f:Type} (g:bZ->Int->Option f) (i:Option f) (j:Int->Option f) (e:bZ) (d:Int):Option f:=cond (gY d (bM e)) (cond (fV e d) (cond (bV (bY e d) 61) (cond (fH (bM e) 0 d) (bJ (YU (sub e 0 d)) fun l=>cond l.1 (j d)<|g e (dw .i64 d 1)) a7)<|g e (dw .i64 d 1)) a7) i
def BP:Nat->bZ->Int->Option (aaR.den⊕abw.den)
 |0,_,_=>a7
 |n+1,d,e=>QK (BP n) (a6 (.inl ((),()))) (fun f=>a6 (.inr ((f,()),()))) d e
def az2 (n:Nat) (v:aaf.den):=BP n v.1.1 v.1.2.1
noncomputable def akC:dE:=fU auc aaf aaR abw (.exit 0) (az2 bQ) 6
def WJ (d:bZ):Option Dc:=bJ (BP bQ d 1) fun e=>dW e (fun g=>a6 (0,())) (fun f=>a6 (f.1.1,()))
def axc:Sum:=⟨[.str],Vl,fun x=>WJ x.1⟩
noncomputable def agH:Env:=iO prog tt 189 [(32,XY)] [(2,auc)] [(2,akC)]
def al3 {d:Type} (a:aaf.den->Option d) (b:aaR.den->Option d) (c:abw.den->Option d) (v:aaf.den):Option d:=QK (aL a) (b ((),())) (aE c) v.1.1 v.1.2.1
theorem aAT:dV agH 189 aq6 akC:=xh (al3) (h2:=by intros;simp only[al3,aL,aE,QK,dh,di,bI,cZ,dm])
theorem aEX:dO agH 189 aIs:=nM [aq6] (aD (fM (aAT)) aN)
theorem anI:eF agH:=eA f189 (aD EQ aN) (aEX)
theorem apM:dR prog 189 axc:=sA anI
structure jq where
 q52:(List gm)->bZ->(List gJ)->Int->Int->Int->Option Dv
 q88:(List gm)->bZ->(List gJ)->Int->Int->Int->Option Dv
 q121:(List gm)->bZ->(List gJ)->Int->Int->Int->Option Dv
 q155:(List gm)->bZ->(List gJ)->Int->Int->Int->Option Dv
 q230:(List gm)->bZ->(List gJ)->Int->Int->Int->Option Dv
 q231:(List gm)->bZ->(List gJ)->Int->Int->Int->Option Dv
 q186:(List gm)->bZ->(List gJ)->Int->Int->Int->Option Dv
 q232:(List gm)->bZ->(List gJ)->Int->Int->Int->Option Dv
 q233:(List gm)->bZ->(List gJ)->Int->Int->Int->Option Dv
def aiI (q:jq):fF:=⟨100,Ja,[],[],fun x y=>q.q52 x.1 x.2.1 x.2.2.1 x.2.2.2.1 x.2.2.2.2.1 x.2.2.2.2.2.1⟩
def axX (q:jq):fF:=⟨100,Ja,[],[],fun x y=>q.q88 x.1 x.2.1 x.2.2.1 x.2.2.2.1 x.2.2.2.2.1 x.2.2.2.2.2.1⟩
def amB (q:jq):fF:=⟨100,Ja,[],[],fun x y=>q.q121 x.1 x.2.1 x.2.2.1 x.2.2.2.1 x.2.2.2.2.1 x.2.2.2.2.2.1⟩
def amD (q:jq):fF:=⟨100,Ja,[],[],fun x y=>q.q155 x.1 x.2.1 x.2.2.1 x.2.2.2.1 x.2.2.2.2.1 x.2.2.2.2.2.1⟩
def acH (q:jq):fF:=⟨100,Ja,[],[],fun x y=>q.q230 x.1 x.2.1 x.2.2.1 x.2.2.2.1 x.2.2.2.2.1 x.2.2.2.2.2.1⟩
def acI (q:jq):fF:=⟨100,Ja,[],[],fun x y=>q.q231 x.1 x.2.1 x.2.2.1 x.2.2.2.1 x.2.2.2.2.1 x.2.2.2.2.2.1⟩
def amF (q:jq):fF:=⟨100,Ja,[],[],fun x y=>q.q186 x.1 x.2.1 x.2.2.1 x.2.2.2.1 x.2.2.2.2.1 x.2.2.2.2.2.1⟩
def amH (q:jq):fF:=⟨100,Ja,[],[],fun x y=>q.q232 x.1 x.2.1 x.2.2.1 x.2.2.2.1 x.2.2.2.2.1 x.2.2.2.2.2.1⟩
def amI (q:jq):fF:=⟨100,Ja,[],[],fun x y=>q.q233 x.1 x.2.1 x.2.2.1 x.2.2.2.1 x.2.2.2.2.1 x.2.2.2.2.2.1⟩
noncomputable def b52:Code:=(f52.body).getD .skip
noncomputable def aBY:Code:=cA (cA (cA (cB (cB (b52)))))
def aj3:eQ:=⟨[0,2,100002],[],[0,2],[],[],[]⟩
def alf:SQ:=⟨us eO 27,c6,bE⟩
def aa7:SQ:=⟨us eO 27,c6,bE⟩
def abN:SQ:=⟨us [] 30,c6,[]⟩
def NG (q:jq) {j:Type} (o l:Int->(List gm)->bZ->Int->Int->Int->(List gJ)->Option j) (z:Option j) (i:Int) (p:List gm) (s:bZ) (u v x:Int) (y:List gJ):Option j:=bJ (qg p s y u v x [59,38]) fun f=>cond f.2.1 (bJ (Bv f.1.1 f.1.2.1 f.1.2.2.1 (dw .i64 f.1.2.2.2.1 1) f.1.2.2.2.2.1 f.1.2.2.2.2.2.1) fun e=>bJ (YW e.1.1 e.1.2.1 e.1.2.2.1 e.1.2.2.2.1 e.1.2.2.2.2.1 e.1.2.2.2.2.2.1) fun d=>cond (!d.2.1) (l i d.1.1 d.1.2.1 d.1.2.2.2.1 d.1.2.2.2.2.1 d.1.2.2.2.2.2.1 d.1.2.2.1)<|bJ (q.q88 d.1.1 d.1.2.1 d.1.2.2.1 d.1.2.2.2.1 d.1.2.2.2.2.1 d.1.2.2.2.2.2.1) fun g=>o i g.1.1 g.1.2.1 g.1.2.2.2.1 g.1.2.2.2.2.1 g.1.2.2.2.2.2.1 g.1.2.2.1)<|bJ (Bv f.1.1 f.1.2.1 f.1.2.2.1 f.1.2.2.2.1 f.1.2.2.2.2.1 f.1.2.2.2.2.2.1) fun e=>cond (bV e.2.1 0) (l i e.1.1 e.1.2.1 e.1.2.2.2.1 e.1.2.2.2.2.1 e.1.2.2.2.2.2.1 e.1.2.2.1)<|bJ (YW e.1.1 e.1.2.1 e.1.2.2.1 e.1.2.2.2.1 e.1.2.2.2.2.1 e.1.2.2.2.2.2.1) fun d=>cond (!d.2.1) (l i d.1.1 d.1.2.1 d.1.2.2.2.1 d.1.2.2.2.2.1 d.1.2.2.2.2.2.1 d.1.2.2.1)<|bJ (q.q88 d.1.1 d.1.2.1 d.1.2.2.1 d.1.2.2.2.1 d.1.2.2.2.2.1 d.1.2.2.2.2.2.1) fun g=>o i g.1.1 g.1.2.1 g.1.2.2.2.1 g.1.2.2.2.2.1 g.1.2.2.2.2.2.1 g.1.2.2.1
def yL (q:jq):Nat->Int->(List gm)->bZ->Int->Int->Int->(List gJ)->Option (aa7.den⊕abN.den)
 |0,_,_,_,_,_,_,_=>a7
 |n+1,d,e,f,g,i,j,l=>NG q (yL q n) (fun o p s u v x y=>a6 (.inl ((o,()),((),()),((p,s,u,v,x,()),y,())))) (a6 (.inr ((),((),()),()))) d e f g i j l
def aFp (q:jq) (n:Nat) (v:alf.den):=bs (yL q n) v
noncomputable def au3 (q:jq):dE:=fG aj3 alf aa7 abN (.exit 0) (aFp q bQ) 6
def aD8 (q:jq) (i:List gm) (j:bZ) (l:List gJ) (o p s:Int):Option Dv:=bJ (GM i j l o p s 2) fun d=>bJ (q.q88 d.1.1 d.1.2.1 d.1.2.2.1 d.1.2.2.2.1 d.1.2.2.2.2.1 d.1.2.2.2.2.2.1) fun f=>bJ (yL q bQ d.2.1 f.1.1 f.1.2.1 f.1.2.2.2.1 f.1.2.2.2.2.1 f.1.2.2.2.2.2.1 f.1.2.2.1) fun u=>dW u (fun e=>bJ (wK e.2.2.1.1 e.2.2.1.2.1 e.2.2.2.1 e.2.2.1.2.2.1 e.2.2.1.2.2.2.1 e.2.2.1.2.2.2.2.1 e.1.1) fun g=>a6 ((g.1.1,(g.1.2.1,(g.1.2.2.1,(g.1.2.2.2.1,(g.1.2.2.2.2.1,(g.1.2.2.2.2.2.1,())))))),())) (fun v=>a7)
noncomputable def asn (q:jq):Env:=gz prog tt [] [(52,2,aj3)] [(52,2,au3 q)] [] [(49,Po),(50,H7),(51,XZ),(54,Pq),(88,axX q),(89,Pv)]
def av8 (q:jq) {d:Type} (a:alf.den->Option d) (b:aa7.den->Option d) (c:abN.den->Option d) (v:alf.den):Option d:=bs (NG q (br a) (br b) (c ((),((),()),()))) v
theorem aFT (q:jq):dV (asn q) 52 aBY (au3 q):=lg (av8 q) (h2:=by intros;simp only[av8,br,bs,NG,dh,di,bI,cZ,dm])
theorem aJZ (q:jq):dO (asn q) 52 b52:=nM [aBY] (aD (fM (aFT q)) aN)
abbrev H52 (q:jq):Prop:=dL prog 52 (aiI q)/\dL prog 88 (axX q)/\dL prog 121 (amB q)/\dL prog 155 (amD q)/\dL prog 230 (acH q)/\dL prog 231 (acI q)/\dL prog 186 (amF q)/\dL prog 232 (amH q)/\dL prog 233 (amI q)
theorem aso (q:jq) (H:H52 q):eF (asn q):=eB aN [52] (aD ⟨f52,b52,by kernel_rfl,by kernel_rfl,aJZ q⟩ aN) (hx:=(aD oQ (aD kM (aD ER (aD oU (aD H.2.1 (aD wW aN)))))))
noncomputable def b88:Code:=(f88.body).getD .skip
noncomputable def aB6:Code:=cA (cA (cA (cB (cB (b88)))))
def alo:SQ:=⟨us eO 25,c6,bE⟩
def ahZ:SQ:=⟨us eO 25,c6,bE⟩
def aik:SQ:=⟨us [] 28,c6,[]⟩
def acy (q:jq) {i:Type} (l o:Int->(List gm)->bZ->Int->Int->Int->(List gJ)->Option i) (z:Option i) (j:Int) (p:List gm) (s:bZ) (u v x:Int) (y:List gJ):Option i:=bJ (qg p s y u v x [97,111]) fun d=>cond d.2.1 (bJ (Bv d.1.1 d.1.2.1 d.1.2.2.1 (dw .i64 d.1.2.2.2.1 1) d.1.2.2.2.2.1 d.1.2.2.2.2.2.1) fun g=>bJ (YW g.1.1 g.1.2.1 g.1.2.2.1 g.1.2.2.2.1 g.1.2.2.2.2.1 g.1.2.2.2.2.2.1) fun e=>cond e.2.1 (bJ (q.q121 e.1.1 e.1.2.1 e.1.2.2.1 e.1.2.2.2.1 e.1.2.2.2.2.1 e.1.2.2.2.2.2.1) fun f=>l j f.1.1 f.1.2.1 f.1.2.2.2.1 f.1.2.2.2.2.1 f.1.2.2.2.2.2.1 f.1.2.2.1)<|bJ (uw e.1.1 e.1.2.1 e.1.2.2.1 e.1.2.2.2.1 e.1.2.2.2.2.1 e.1.2.2.2.2.2.1) fun f=>l j f.1.1 f.1.2.1 f.1.2.2.2.1 f.1.2.2.2.2.1 f.1.2.2.2.2.2.1 f.1.2.2.1)<|o j d.1.1 d.1.2.1 d.1.2.2.2.1 d.1.2.2.2.2.1 d.1.2.2.2.2.2.1 d.1.2.2.1
def TJ (q:jq):Nat->Int->(List gm)->bZ->Int->Int->Int->(List gJ)->Option (ahZ.den⊕aik.den)
 |0,_,_,_,_,_,_,_=>a7
 |n+1,d,e,f,g,i,j,l=>acy q (TJ q n) (fun o p s u v x y=>a6 (.inl ((o,()),((),()),((p,s,u,v,x,()),y,())))) (a6 (.inr ((),((),()),()))) d e f g i j l
def aFx (q:jq) (n:Nat) (v:alo.den):=bs (TJ q n) v
noncomputable def avb (q:jq):dE:=fG aj3 alo ahZ aik (.exit 0) (aFx q bQ) 6
def aD9 (q:jq) (i:List gm) (j:bZ) (l:List gJ) (o p s:Int):Option Dv:=bJ (GM i j l o p s 3) fun d=>bJ (q.q121 d.1.1 d.1.2.1 d.1.2.2.1 d.1.2.2.2.1 d.1.2.2.2.2.1 d.1.2.2.2.2.2.1) fun f=>bJ (TJ q bQ d.2.1 f.1.1 f.1.2.1 f.1.2.2.2.1 f.1.2.2.2.2.1 f.1.2.2.2.2.2.1 f.1.2.2.1) fun u=>dW u (fun e=>bJ (wK e.2.2.1.1 e.2.2.1.2.1 e.2.2.2.1 e.2.2.1.2.2.1 e.2.2.1.2.2.2.1 e.2.2.1.2.2.2.2.1 e.1.1) fun g=>a6 ((g.1.1,(g.1.2.1,(g.1.2.2.1,(g.1.2.2.2.1,(g.1.2.2.2.2.1,(g.1.2.2.2.2.2.1,())))))),())) (fun v=>a7)
noncomputable def asG (q:jq):Env:=gz prog tt [] [(88,2,aj3)] [(88,2,avb q)] [] [(49,Po),(50,H7),(51,XZ),(54,Pq),(89,Pv),(121,amB q),(122,U2)]
def awi (q:jq) {d:Type} (a:alo.den->Option d) (b:ahZ.den->Option d) (c:aik.den->Option d) (v:alo.den):Option d:=bs (acy q (br a) (br b) (c ((),((),()),()))) v
theorem aF1 (q:jq):dV (asG q) 88 aB6 (avb q):=lg (awi q) (h2:=by intros;simp only[awi,br,bs,acy,dh,di,bI,cZ,dm])
theorem aJ8 (q:jq):dO (asG q) 88 b88:=nM [aB6] (aD (fM (aF1 q)) aN)
theorem asH (q:jq) (H:H52 q):eF (asG q):=eB aN [88] (aD ⟨f88,b88,by kernel_rfl,by kernel_rfl,aJ8 q⟩ aN) (hx:=(aD oQ (aD kM (aD ER (aD oU (aD wW (aD H.2.2.1 (aD vU aN))))))))
noncomputable def aDD:Code:=(f121.body).getD .skip
noncomputable def aqS:Code:=cA (cA (cA (cB (cB (cB (aDD))))))
def atT:eQ:=⟨[0,2,100004],[],[0,2],[],[],[]⟩
def ZU:SQ:=⟨us eO 31,c6,bE⟩
def aaD:SQ:=⟨us eO 31,c6,bE⟩
def abg:SQ:=⟨us [] 34,c6,[]⟩
def Qy (q:jq) {g:Type} (j l:Int->(List gm)->bZ->Int->Int->Int->(List gJ)->Option g) (y:Option g) (i:Int) (o:List gm) (p:bZ) (s u v:Int) (x:List gJ):Option g:=bJ (qg o p x s u v [124]) fun d=>cond d.2.1 (bJ (Bv d.1.1 d.1.2.1 d.1.2.2.1 (dw .i64 d.1.2.2.2.1 1) d.1.2.2.2.2.1 d.1.2.2.2.2.2.1) fun e=>bJ (q.q155 e.1.1 e.1.2.1 e.1.2.2.1 e.1.2.2.2.1 e.1.2.2.2.2.1 e.1.2.2.2.2.2.1) fun f=>j i f.1.1 f.1.2.1 f.1.2.2.2.1 f.1.2.2.2.2.1 f.1.2.2.2.2.2.1 f.1.2.2.1)<|l i d.1.1 d.1.2.1 d.1.2.2.2.1 d.1.2.2.2.2.1 d.1.2.2.2.2.2.1 d.1.2.2.1
def BL (q:jq):Nat->Int->(List gm)->bZ->Int->Int->Int->(List gJ)->Option (aaD.den⊕abg.den)
 |0,_,_,_,_,_,_,_=>a7
 |n+1,d,e,f,g,i,j,l=>Qy q (BL q n) (fun o p s u v x y=>a6 (.inl ((o,()),((),()),((p,s,u,v,x,()),y,())))) (a6 (.inr ((),((),()),()))) d e f g i j l
def azN (q:jq) (n:Nat) (v:ZU.den):=bs (BL q n) v
noncomputable def ako (q:jq):dE:=fG atT ZU aaD abg (.exit 0) (azN q bQ) 6
def as1 (q:jq) (l:List gm) (o:bZ) (p:List gJ) (s u v:Int):Option Dv:=bJ (GM l o p s u v 4) fun i=>bJ (qg i.1.1 i.1.2.1 i.1.2.2.1 i.1.2.2.2.1 i.1.2.2.2.2.1 i.1.2.2.2.2.2.1 [33]) fun e=>cond e.2.1 (bJ (q.q155 e.1.1 e.1.2.1 e.1.2.2.1 (dw .i64 e.1.2.2.2.1 1) e.1.2.2.2.2.1 e.1.2.2.2.2.2.1) fun f=>bJ (BL q bQ i.2.1 f.1.1 f.1.2.1 f.1.2.2.2.1 f.1.2.2.2.2.1 f.1.2.2.2.2.2.1 f.1.2.2.1) fun j=>dW j (fun d=>bJ (wK d.2.2.1.1 d.2.2.1.2.1 d.2.2.2.1 d.2.2.1.2.2.1 d.2.2.1.2.2.2.1 d.2.2.1.2.2.2.2.1 d.1.1) fun g=>a6 ((g.1.1,(g.1.2.1,(g.1.2.2.1,(g.1.2.2.2.1,(g.1.2.2.2.2.1,(g.1.2.2.2.2.2.1,())))))),())) (fun x=>a7))<|bJ (q.q155 e.1.1 e.1.2.1 e.1.2.2.1 e.1.2.2.2.1 e.1.2.2.2.2.1 e.1.2.2.2.2.2.1) fun f=>bJ (BL q bQ i.2.1 f.1.1 f.1.2.1 f.1.2.2.2.1 f.1.2.2.2.2.1 f.1.2.2.2.2.2.1 f.1.2.2.1) fun j=>dW j (fun d=>bJ (wK d.2.2.1.1 d.2.2.1.2.1 d.2.2.2.1 d.2.2.1.2.2.1 d.2.2.1.2.2.2.1 d.2.2.1.2.2.2.2.1 d.1.1) fun g=>a6 ((g.1.1,(g.1.2.1,(g.1.2.2.1,(g.1.2.2.2.1,(g.1.2.2.2.2.1,(g.1.2.2.2.2.2.1,())))))),())) (fun x=>a7)
noncomputable def agu (q:jq):Env:=gz prog tt [] [(121,4,atT)] [(121,4,ako q)] [] [(49,Po),(50,H7),(54,Pq),(89,Pv),(155,amD q)]
def alO (q:jq) {d:Type} (a:ZU.den->Option d) (b:aaD.den->Option d) (c:abg.den->Option d) (v:ZU.den):Option d:=bs (Qy q (br a) (br b) (c ((),((),()),()))) v
theorem aAE (q:jq):dV (agu q) 121 aqS (ako q):=lg (alO q) (h2:=by intros;simp only[alO,br,bs,Qy,dh,di,bI,cZ,dm])
theorem aEF (q:jq):dO (agu q) 121 aDD:=nM [aqS] (aD (fM (aAE q)) aN)
theorem anl (q:jq) (H:H52 q):eF (agu q):=eB aN [121] (aD ⟨f121,aDD,by kernel_rfl,by kernel_rfl,aEF q⟩ aN) (hx:=(aD oQ (aD kM (aD oU (aD wW (aD H.2.2.2.1 aN))))))
noncomputable def agc:Code:=(Tryz.f155.body).getD .skip
noncomputable def aiT:Code:=cA (cA (cA (cB (cB (cB (cB (cB (agc))))))))
noncomputable def xB:Code:=cB (cB (cB (agc)))
def ajW:eQ:=⟨[0,3,4,100016],[],[0,3],[],[],[]⟩
def xK:eQ:=⟨[0,900014],[],[],[],[],[]⟩
def PX:SQ:=⟨us [co,.u,.u,bR,bR] 139,c6,bE⟩
def Ue:SQ:=⟨us ey 140,c6,bE⟩
def Ul:SQ:=⟨us [] 144,c6,[]⟩
def Ld (q:jq) {j:Type} (l:Int->Int->(List gm)->bZ->Int->Int->Int->(List gJ)->Option j) (o:Int->(List gm)->bZ->Int->Int->Int->(List gJ)->Option j) (z:Option j) (g i:Int) (p:List gm) (s:bZ) (u v x:Int) (y:List gJ):Option j:=bJ (WF p s y u v x) fun d=>cond d.2.1 (bJ (adF d.1.1 d.1.2.1 d.1.2.2.1 d.1.2.2.2.1 d.1.2.2.2.2.1 d.1.2.2.2.2.2.1) fun e=>l g i e.1.1 e.1.2.1 e.1.2.2.2.1 e.1.2.2.2.2.1 e.1.2.2.2.2.2.1 e.1.2.2.1)<|cond (gY d.1.2.2.2.1 (bM d.1.1)) (cond (fV d.1.1 d.1.2.2.2.1) (cond (bV (dJ d.1.1 (0,([],(0,(0,())))) d.1.2.2.2.1).1 6) (cond (bV i 0) (cond (fV d.1.1 d.1.2.2.2.1) (bJ (WJ (dJ d.1.1 (0,([],(0,(0,())))) d.1.2.2.2.1).2.1) fun e=>cond (gY 0 e.1) (bJ (L6 d.1.1 d.1.2.1 d.1.2.2.1 d.1.2.2.2.1 d.1.2.2.2.2.1 d.1.2.2.2.2.2.1 6) fun f=>l g i f.1.1 f.1.2.1 f.1.2.2.2.1 f.1.2.2.2.2.1 f.1.2.2.2.2.2.1 f.1.2.2.1)<|bJ (L6 d.1.1 d.1.2.1 d.1.2.2.1 d.1.2.2.2.1 d.1.2.2.2.2.1 d.1.2.2.2.2.2.1 7) fun f=>l g (dw .i64 i 1) f.1.1 f.1.2.1 f.1.2.2.2.1 f.1.2.2.2.2.1 f.1.2.2.2.2.2.1 f.1.2.2.1) a7)<|bJ (L6 d.1.1 d.1.2.1 d.1.2.2.1 d.1.2.2.2.1 d.1.2.2.2.2.1 d.1.2.2.2.2.2.1 7) fun e=>l g (dw .i64 i 1) e.1.1 e.1.2.1 e.1.2.2.2.1 e.1.2.2.2.2.1 e.1.2.2.2.2.2.1 e.1.2.2.1)<|o g d.1.1 d.1.2.1 d.1.2.2.2.1 d.1.2.2.2.2.1 d.1.2.2.2.2.2.1 d.1.2.2.1) a7)<|o g d.1.1 d.1.2.1 d.1.2.2.2.1 d.1.2.2.2.2.1 d.1.2.2.2.2.2.1 d.1.2.2.1
def zX (q:jq):Nat->Int->Int->(List gm)->bZ->Int->Int->Int->(List gJ)->Option (Ue.den⊕Ul.den)
 |0,_,_,_,_,_,_,_,_=>a7
 |n+1,d,e,f,g,i,j,l,o=>Ld q (zX q n) (fun p s u v x y z=>a6 (.inl ((p,()),((),()),((s,u,v,x,y,()),z,())))) (a6 (.inr ((),((),()),()))) d e f g i j l o
def auK (q:jq) (n:Nat) (v:PX.den):=zX q n v.1.1 v.1.2.1 v.2.2.1.1 v.2.2.1.2.1 v.2.2.1.2.2.1 v.2.2.1.2.2.2.1 v.2.2.1.2.2.2.2.1 v.2.2.2.1
noncomputable def aez (q:jq):dE:=fG ajW PX Ue Ul (.exit 0) (auK q bQ) 6
def Ei:SQ:=⟨us bN 143,c6,bE⟩
def uU:SQ:=⟨us [] 144,c6,bE⟩
def uV:SQ:=⟨us [] 144,c6,[]⟩
def CX (q:jq) {g:Type} (i:(List gm)->bZ->Int->Int->Int->(List gJ)->Option g) (j:Option g) (l:List gm) (o:bZ) (p s u:Int) (v:List gJ):Option g:=bJ (GM l o v p s u 5) fun d=>bJ (zX q bQ d.2.1 0 d.1.1 d.1.2.1 d.1.2.2.2.1 d.1.2.2.2.2.1 d.1.2.2.2.2.2.1 d.1.2.2.1) fun x=>dW x (fun e=>bJ (wK e.2.2.1.1 e.2.2.1.2.1 e.2.2.2.1 e.2.2.1.2.2.1 e.2.2.1.2.2.2.1 e.2.2.1.2.2.2.2.1 e.1.1) fun f=>i f.1.1 f.1.2.1 f.1.2.2.2.1 f.1.2.2.2.2.1 f.1.2.2.2.2.2.1 f.1.2.2.1) (fun y=>j)
def uK (q:jq) (d:List gm) (e:bZ) (f g i:Int) (j:List gJ):Option (uU.den⊕uV.den):=CX q (fun l o p s u v=>a6 (.inl ((),((),()),((l,o,p,s,u,()),v,())))) (a6 (.inr ((),((),()),()))) d e f g i j
noncomputable def Kt (q:jq):dE:=fG xK Ei uU uV (.exit 999999) (fun v=>uK q v.2.2.1.1 v.2.2.1.2.1 v.2.2.1.2.2.1 v.2.2.1.2.2.2.1 v.2.2.1.2.2.2.2.1 v.2.2.2.1) 12
def JI (q:jq) (d:(taF×qG)):Option Dv:=bJ (uK q d.1.1 d.1.2.1 d.1.2.2.2.1 d.1.2.2.2.2.1 d.1.2.2.2.2.2.1 d.1.2.2.1) fun f=>dW f (fun e=>a6 ((e.2.2.1.1,(e.2.2.1.2.1,(e.2.2.2.1,(e.2.2.1.2.2.1,(e.2.2.1.2.2.2.1,(e.2.2.1.2.2.2.2.1,())))))),())) (fun g=>a7)
def aIT (q:jq) (u:List gm) (v:bZ) (x:List gJ) (y z A:Int):Option Dv:=bJ (atm u v x y z A) fun f=>cond (!f.2.1) (bJ (uw f.1.1 f.1.2.1 f.1.2.2.1 f.1.2.2.2.1 f.1.2.2.2.2.1 f.1.2.2.2.2.2.1) fun e=>a6 ((e.1.1,(e.1.2.1,(e.1.2.2.1,(e.1.2.2.2.1,(e.1.2.2.2.2.1,(e.1.2.2.2.2.2.1,())))))),()))<|bJ (Sv f.1.1 f.1.2.1 f.1.2.2.1 f.1.2.2.2.1 f.1.2.2.2.2.1 f.1.2.2.2.2.2.1) fun e=>cond e.2.1 (bJ (q.q186 e.1.1 e.1.2.1 e.1.2.2.1 e.1.2.2.2.1 e.1.2.2.2.2.1 e.1.2.2.2.2.2.1) fun d=>a6 ((d.1.1,(d.1.2.1,(d.1.2.2.1,(d.1.2.2.2.1,(d.1.2.2.2.2.1,(d.1.2.2.2.2.2.1,())))))),()))<|bJ (qg e.1.1 e.1.2.1 e.1.2.2.1 e.1.2.2.2.1 e.1.2.2.2.2.1 e.1.2.2.2.2.2.1 [120]) fun d=>cond d.2.1 (cond (gY (dw .i64 d.1.2.2.2.1 1) (bM d.1.2.1)) (cond (fV d.1.2.1 (dw .i64 d.1.2.2.2.1 1)) (cond (bV (bY d.1.2.1 (dw .i64 d.1.2.2.2.1 1)) 40) (cond (gY d.1.2.2.2.2.2.1 200) (cond (fV d.1.1 d.1.2.2.2.1) (bJ (YU (dJ d.1.1 (0,([],(0,(0,())))) d.1.2.2.2.1).2.1) fun B=>cond B.1 (bJ (GM d.1.1 d.1.2.1 d.1.2.2.1 d.1.2.2.2.1 d.1.2.2.2.2.1 d.1.2.2.2.2.2.1 16) fun l=>bJ (L6 l.1.1 l.1.2.1 l.1.2.2.1 l.1.2.2.2.1 l.1.2.2.2.2.1 l.1.2.2.2.2.2.1 7) fun o=>bJ (uy o.1.1 o.1.2.1 o.1.2.2.1 (dw .i64 o.1.2.2.2.1 1) o.1.2.2.2.2.1 o.1.2.2.2.2.2.1 [41]) fun p=>bJ (Bv p.1.1 p.1.2.1 p.1.2.2.1 p.1.2.2.2.1 p.1.2.2.2.2.1 p.1.2.2.2.2.2.1) fun s=>bJ (Sv s.1.1 s.1.2.1 s.1.2.2.1 s.1.2.2.2.1 s.1.2.2.2.2.1 s.1.2.2.2.2.2.1) fun g=>cond g.2.1 (bJ (q.q186 g.1.1 g.1.2.1 g.1.2.2.1 g.1.2.2.2.1 g.1.2.2.2.2.1 g.1.2.2.2.2.2.1) fun i=>bJ (wK i.1.1 i.1.2.1 i.1.2.2.1 i.1.2.2.2.1 i.1.2.2.2.2.1 i.1.2.2.2.2.2.1 l.2.1) fun j=>a6 ((j.1.1,(j.1.2.1,(j.1.2.2.1,(j.1.2.2.2.1,(j.1.2.2.2.2.1,(j.1.2.2.2.2.2.1,())))))),()))<|bJ (uw g.1.1 g.1.2.1 g.1.2.2.1 g.1.2.2.2.1 g.1.2.2.2.2.1 g.1.2.2.2.2.2.1) fun i=>bJ (wK i.1.1 i.1.2.1 i.1.2.2.1 i.1.2.2.2.1 i.1.2.2.2.2.1 i.1.2.2.2.2.2.1 l.2.1) fun j=>a6 ((j.1.1,(j.1.2.1,(j.1.2.2.1,(j.1.2.2.2.1,(j.1.2.2.2.2.1,(j.1.2.2.2.2.2.1,())))))),()))<|JI q d) a7)<|JI q d)<|JI q d) a7)<|JI q d)<|JI q d
noncomputable def Ik (q:jq):Env:=gz prog tt [(32,XY),(189,axc)] [(155,16,ajW),(155,800014,xK)] [(155,16,aez q),(155,800014,Kt q)] [] [(49,Po),(50,H7),(53,amR),(54,Pq),(87,aC7),(89,Pv),(119,aiC),(120,awU),(122,U2),(186,amF q),(187,U3),(188,aiG)]
def afl (q:jq) {d:Type} (a:PX.den->Option d) (b:Ue.den->Option d) (c:Ul.den->Option d) (v:PX.den):Option d:=Ld q (fun e f g i j l o p=>a ((e,f,()),((),()),((g,i,j,l,o,()),p,()))) (br b) (c ((),((),()),())) v.1.1 v.1.2.1 v.2.2.1.1 v.2.2.1.2.1 v.2.2.1.2.2.1 v.2.2.1.2.2.2.1 v.2.2.1.2.2.2.2.1 v.2.2.2.1
theorem avn (q:jq):dV (Ik q) 155 aiT (aez q):=lg (afl q) (h2:=by intros;simp only[afl,br,Ld,dh,di,bI,cZ,dm])
theorem UX (q:jq) {R:Type} (d:Nat) (K:Ex->St->Option R) (e:List gm) (f:bZ) (g i j:Int) (l:List gJ):
  iter (a6 xK) (Bg (xn (Ik q) (d+12) 155 xB)) 1 (mF Ei ((),((),()),((e,f,g,i,j,()),l,()))) K=
   CX q (fun o p e2 s u v=>K (.exit 999999) (mF uU ((),((),()),((o,p,e2,s,u,()),v,())))) (K .ret (mF uV ((),((),()),()))) e f g i j l:=by kernel_rfl
theorem Y9 (q:jq) {R:Type} (d:Nat) (K:Ex->St->Option R) (e:List gm) (f:bZ) (g i j:Int) (l:List gJ):
  iter (a6 xK) (Bg (xn (Ik q) (d+12) 155 xB)) 1 (mF Ei ((),((),()),((e,f,g,i,j,()),l,()))) K=bJ (uK q e f g i j l) fun o=>dW o (fun a=>K (.exit 999999) (mF uU a)) fun b=>K .ret (mF uV b):=by
  rw[UX];simp only[uK,CX,dh,di,bI,cZ,dm]
  try simp only[dW]
theorem ZG (q:jq):sH (Ik q) 155 xB (Kt q):=anc (by kernel_rfl) fun R d K v o h=>⟨1,(Y9 q d K (v.2.2.1.1) (v.2.2.1.2.1) (v.2.2.1.2.2.1) (v.2.2.1.2.2.2.1) (v.2.2.1.2.2.2.2.1) (v.2.2.2.1)).trans (congrArg (fun o=>bJ o _) h)⟩
theorem aEv:jC agc=[aiT]:=by kernel_rfl
theorem aDS (q:jq):FI (Ik q) 155 agc=[xB]:=by kernel_rfl
theorem aEQ (q:jq):dO (Ik q) 155 agc:=xM agc (fun x _ d=>absurd (show false=true from d) (by decide)) (by rw[aEv];exact(aD (fM (avn q)) aN)) (BH (by rw[aDS];exact(aD (fC (by kernel_rfl) (ZG q)) aN)))
theorem anA (q:jq) (H:H52 q):eF (Ik q):=eB (aD EQ (aD apM aN)) [155] (aD ⟨Tryz.f155,agc,by kernel_rfl,by kernel_rfl,aEQ q⟩ aN) (hx:=(aD oQ (aD kM (aD Lt (aD oU (aD afJ (aD wW (aD NK (aD XI (aD vU (aD H.2.2.2.2.2.2.1 (aD Gx (aD XR aN)))))))))))))
def as4 (q:jq) (g:List gm) (i:bZ) (j:List gJ) (l o p:Int):Option Dv:=bJ (Bv g i j l o p) fun f=>bJ (YW f.1.1 f.1.2.1 f.1.2.2.1 f.1.2.2.2.1 f.1.2.2.2.2.1 f.1.2.2.2.2.2.1) fun d=>cond d.2.1 (bJ (q.q52 d.1.1 d.1.2.1 d.1.2.2.1 d.1.2.2.2.1 d.1.2.2.2.2.1 d.1.2.2.2.2.2.1) fun e=>a6 ((e.1.1,(e.1.2.1,(e.1.2.2.1,(e.1.2.2.2.1,(e.1.2.2.2.2.1,(e.1.2.2.2.2.2.1,())))))),()))<|bJ (uw d.1.1 d.1.2.1 d.1.2.2.1 d.1.2.2.2.1 d.1.2.2.2.2.1 d.1.2.2.2.2.2.1) fun e=>a6 ((e.1.1,(e.1.2.1,(e.1.2.2.1,(e.1.2.2.2.1,(e.1.2.2.2.2.1,(e.1.2.2.2.2.2.1,())))))),())
noncomputable def aDV (q:jq):Env:=gz prog tt [] [] [] [] [(51,XZ),(52,aiI q),(89,Pv),(122,U2)]
theorem anQ (q:jq) (H:H52 q):eF (aDV q):=eB aN [] aN (hx:=(aD ER (aD H.1 (aD wW (aD vU aN)))))
def aIW (q:jq) (g:List gm) (i:bZ) (j:List gJ) (l o p:Int):Option Dv:=bJ (uy g i j l o p [100]) fun d=>bJ (q.q230 d.1.1 d.1.2.1 d.1.2.2.1 d.1.2.2.2.1 d.1.2.2.2.2.1 d.1.2.2.2.2.2.1) fun e=>bJ (uy e.1.1 e.1.2.1 e.1.2.2.1 e.1.2.2.2.1 e.1.2.2.2.2.1 e.1.2.2.2.2.2.1 [103]) fun f=>a6 ((f.1.1,(f.1.2.1,(f.1.2.2.1,(f.1.2.2.2.1,(f.1.2.2.2.2.1,(f.1.2.2.2.2.2.1,())))))),())
noncomputable def aDW (q:jq):Env:=gz prog tt [] [] [] [] [(187,U3),(230,acH q)]
theorem anR (q:jq) (H:H52 q):eF (aDW q):=eB aN [] aN (hx:=(aD Gx (aD H.2.2.2.2.1 aN)))
noncomputable def aqF:Code:=(f186.body).getD .skip
noncomputable def aq5:Code:=cA (cA (cB (cA (cB (cB (aqF))))))
noncomputable def aiW:Code:=cA (cA (cA (cB (cB (cB (cA (cB (cB (cB (cB (cB (cA (cB (cA (cB (cB (cB (cB (cB (aqF))))))))))))))))))))
noncomputable def aiX:Code:=cA (cA (cA (cB (cB (cB (cB (cB (cB (aqF)))))))))
def aub:eQ:=⟨[0,2,3,4,100003],[],[0,3],[],[],[]⟩
def ajZ:eQ:=⟨[0,5,100020],[],[0,5],[],[],[]⟩
def aj0:eQ:=⟨[0,5,100036],[],[0,5],[],[],[]⟩
def aae:SQ:=⟨us [co,.u,cM,bR,bR] 103,c6,bE⟩
def aaQ:SQ:=⟨us ey 104,c6,bE⟩
def abv:SQ:=⟨us [] 108,c6,[]⟩
def acf (q:jq) {e:Type} (s:Int->Int->Int->(List gm)->bZ->Int->Int->Int->(List gJ)->Option e) (v:Int->(List gm)->bZ->Int->Int->Int->(List gJ)->Option e) (x:Option e) (f u d:Int) (g:List gm) (i:bZ) (j l o:Int) (p:List gJ):Option e:=cond (gY d 6) (cond (fV [123,40,105,119,114,99] d) (cond (bV (bY [123,40,105,119,114,99] d) f) (s f (dw .i64 9 d) (dw .i64 d 1) g i j l o p)<|s f u (dw .i64 d 1) g i j l o p) a7)<|v u g i j l o p
def Zl (q:jq):Nat->Int->Int->Int->(List gm)->bZ->Int->Int->Int->(List gJ)->Option (aaQ.den⊕abv.den)
 |0,_,_,_,_,_,_,_,_,_=>a7
 |n+1,d,e,f,g,i,j,l,o,p=>acf q (Zl q n) (fun s u v x y z A=>a6 (.inl ((s,()),((),()),((u,v,x,y,z,()),A,())))) (a6 (.inr ((),((),()),()))) d e f g i j l o p
def az1 (q:jq) (n:Nat) (v:aae.den):=Zl q n v.1.1 v.1.2.1 v.1.2.2.1 v.2.2.1.1 v.2.2.1.2.1 v.2.2.1.2.2.1 v.2.2.1.2.2.2.1 v.2.2.1.2.2.2.2.1 v.2.2.2.1
noncomputable def akB (q:jq):dE:=fG aub aae aaQ abv (.exit 0) (az1 q bQ) 6
def P6:SQ:=⟨c8,c6,bE⟩
def KE:SQ:=⟨c8,c6,bE⟩
def KH:SQ:=⟨us [] 108,c6,[]⟩
def UO (q:jq) {f:Type} (i j:Int->(List gm)->bZ->Int->Int->Int->(List gJ)->Option f) (x:Option f) (g:Int) (l:List gm) (o:bZ) (p s u:Int) (v:List gJ):Option f:=bJ (WF l o v p s u) fun d=>cond d.2.1 (bJ (adF d.1.1 d.1.2.1 d.1.2.2.1 d.1.2.2.2.1 d.1.2.2.2.2.1 d.1.2.2.2.2.2.1) fun e=>i g e.1.1 e.1.2.1 e.1.2.2.2.1 e.1.2.2.2.2.1 e.1.2.2.2.2.2.1 e.1.2.2.1)<|j g d.1.1 d.1.2.1 d.1.2.2.2.1 d.1.2.2.2.2.1 d.1.2.2.2.2.2.1 d.1.2.2.1
def oO (q:jq):Nat->Int->(List gm)->bZ->Int->Int->Int->(List gJ)->Option (KE.den⊕KH.den)
 |0,_,_,_,_,_,_,_=>a7
 |n+1,d,e,f,g,i,j,l=>UO q (oO q n) (fun o p s u v x y=>a6 (.inl ((o,()),((),()),((p,s,u,v,x,()),y,())))) (a6 (.inr ((),((),()),()))) d e f g i j l
def auO (q:jq) (n:Nat) (v:P6.den):=bs (oO q n) v
noncomputable def aeD (q:jq):dE:=fG aj0 P6 KE KH (.exit 5) (auO q bQ) 12
def P5:SQ:=⟨c8,c6,bE⟩
def Uh:SQ:=⟨c8,c6,bE⟩
def Uo:SQ:=⟨us [] 108,c6,[]⟩
def UN (q:jq) {i:Type} (l o:Int->(List gm)->bZ->Int->Int->Int->(List gJ)->Option i) (z:Option i) (j:Int) (p:List gm) (s:bZ) (u v x:Int) (y:List gJ):Option i:=bJ (qg p s y u v x [101]) fun d=>cond d.2.1 (bJ (q.q230 d.1.1 d.1.2.1 d.1.2.2.1 (dw .i64 d.1.2.2.2.1 1) d.1.2.2.2.2.1 d.1.2.2.2.2.2.1) fun e=>bJ (uy e.1.1 e.1.2.1 e.1.2.2.1 e.1.2.2.2.1 e.1.2.2.2.2.1 e.1.2.2.2.2.2.1 [116]) fun f=>bJ (q.q230 f.1.1 f.1.2.1 f.1.2.2.1 f.1.2.2.2.1 f.1.2.2.2.2.1 f.1.2.2.2.2.2.1) fun g=>l j g.1.1 g.1.2.1 g.1.2.2.2.1 g.1.2.2.2.2.1 g.1.2.2.2.2.2.1 g.1.2.2.1)<|o j d.1.1 d.1.2.1 d.1.2.2.2.1 d.1.2.2.2.2.1 d.1.2.2.2.2.2.1 d.1.2.2.1
def TD (q:jq):Nat->Int->(List gm)->bZ->Int->Int->Int->(List gJ)->Option (Uh.den⊕Uo.den)
 |0,_,_,_,_,_,_,_=>a7
 |n+1,d,e,f,g,i,j,l=>UN q (TD q n) (fun o p s u v x y=>a6 (.inl ((o,()),((),()),((p,s,u,v,x,()),y,())))) (a6 (.inr ((),((),()),()))) d e f g i j l
def auN (q:jq) (n:Nat) (v:P5.den):=bs (TD q n) v
noncomputable def aeC (q:jq):dE:=fG ajZ P5 Uh Uo (.exit 3) (auN q bQ) 18
def xE (f:KE.den⊕KH.den):Option Dv:=dW f (fun d=>bJ (wK d.2.2.1.1 d.2.2.1.2.1 d.2.2.2.1 d.2.2.1.2.2.1 d.2.2.1.2.2.2.1 d.2.2.1.2.2.2.2.1 d.1.1) fun e=>a6 ((e.1.1,(e.1.2.1,(e.1.2.2.1,(e.1.2.2.2.1,(e.1.2.2.2.2.1,(e.1.2.2.2.2.2.1,())))))),())) (fun g=>a7)
def aIU (q:jq) (v:List gm) (s:bZ) (x:List gJ) (u y z:Int):Option Dv:=cond (fV s u) (bJ (Zl q bQ (bY s u) 9 0 v s u y z x) fun A=>dW A (fun g=>bJ (GM g.2.2.1.1 g.2.2.1.2.1 g.2.2.2.1 g.2.2.1.2.2.1 g.2.2.1.2.2.2.1 g.2.2.1.2.2.2.2.1 g.1.1) fun d=>cond (bV g.1.1 9) (bJ (q.q230 d.1.1 d.1.2.1 d.1.2.2.1 (dw .i64 d.1.2.2.2.1 1) d.1.2.2.2.2.1 d.1.2.2.2.2.2.1) fun e=>bJ (uy e.1.1 e.1.2.1 e.1.2.2.1 e.1.2.2.2.1 e.1.2.2.2.2.1 e.1.2.2.2.2.2.1 [125]) fun f=>bJ (oO q bQ d.2.1 f.1.1 f.1.2.1 f.1.2.2.2.1 f.1.2.2.2.2.1 f.1.2.2.2.2.2.1 f.1.2.2.1) fun l=>xE l)<|cond (bV g.1.1 10) (bJ (q.q230 d.1.1 d.1.2.1 d.1.2.2.1 (dw .i64 d.1.2.2.2.1 1) d.1.2.2.2.2.1 d.1.2.2.2.2.2.1) fun e=>bJ (uy e.1.1 e.1.2.1 e.1.2.2.1 e.1.2.2.2.1 e.1.2.2.2.2.1 e.1.2.2.2.2.2.1 [41]) fun f=>bJ (oO q bQ d.2.1 f.1.1 f.1.2.1 f.1.2.2.2.1 f.1.2.2.2.2.1 f.1.2.2.2.2.2.1 f.1.2.2.1) fun l=>xE l)<|cond (bV g.1.1 11) (bJ (q.q230 d.1.1 d.1.2.1 d.1.2.2.1 (dw .i64 d.1.2.2.2.1 1) d.1.2.2.2.2.1 d.1.2.2.2.2.2.1) fun e=>bJ (uy e.1.1 e.1.2.1 e.1.2.2.1 e.1.2.2.2.1 e.1.2.2.2.2.1 e.1.2.2.2.2.2.1 [116]) fun f=>bJ (q.q230 f.1.1 f.1.2.1 f.1.2.2.1 f.1.2.2.2.1 f.1.2.2.2.2.1 f.1.2.2.2.2.2.1) fun l=>bJ (TD q bQ d.2.1 l.1.1 l.1.2.1 l.1.2.2.2.1 l.1.2.2.2.2.1 l.1.2.2.2.2.2.1 l.1.2.2.1) fun B=>dW B (fun o=>bJ (qg o.2.2.1.1 o.2.2.1.2.1 o.2.2.2.1 o.2.2.1.2.2.1 o.2.2.1.2.2.2.1 o.2.2.1.2.2.2.2.1 [108]) fun i=>cond i.2.1 (bJ (q.q230 i.1.1 i.1.2.1 i.1.2.2.1 (dw .i64 i.1.2.2.2.1 1) i.1.2.2.2.2.1 i.1.2.2.2.2.2.1) fun j=>bJ (uy j.1.1 j.1.2.1 j.1.2.2.1 j.1.2.2.2.1 j.1.2.2.2.2.1 j.1.2.2.2.2.2.1 [102]) fun p=>bJ (oO q bQ o.1.1 p.1.1 p.1.2.1 p.1.2.2.2.1 p.1.2.2.2.2.1 p.1.2.2.2.2.2.1 p.1.2.2.1) fun D=>xE D)<|bJ (uy i.1.1 i.1.2.1 i.1.2.2.1 i.1.2.2.2.1 i.1.2.2.2.2.1 i.1.2.2.2.2.2.1 [102]) fun j=>bJ (oO q bQ o.1.1 j.1.1 j.1.2.1 j.1.2.2.2.1 j.1.2.2.2.2.1 j.1.2.2.2.2.2.1 j.1.2.2.1) fun p=>xE p) (fun E=>a7))<|cond (bV g.1.1 12) (bJ (q.q230 d.1.1 d.1.2.1 d.1.2.2.1 (dw .i64 d.1.2.2.2.1 1) d.1.2.2.2.2.1 d.1.2.2.2.2.2.1) fun e=>bJ (q.q231 e.1.1 e.1.2.1 e.1.2.2.1 e.1.2.2.2.1 e.1.2.2.2.2.1 e.1.2.2.2.2.2.1) fun f=>bJ (oO q bQ d.2.1 f.1.1 f.1.2.1 f.1.2.2.2.1 f.1.2.2.2.2.1 f.1.2.2.2.2.2.1 f.1.2.2.1) fun l=>xE l)<|cond (bV g.1.1 13) (bJ (q.q232 d.1.1 d.1.2.1 d.1.2.2.1 (dw .i64 d.1.2.2.2.1 1) d.1.2.2.2.2.1 d.1.2.2.2.2.2.1) fun e=>bJ (oO q bQ d.2.1 e.1.1 e.1.2.1 e.1.2.2.2.1 e.1.2.2.2.2.1 e.1.2.2.2.2.2.1 e.1.2.2.1) fun f=>xE f)<|cond (bV g.1.1 14) (bJ (q.q233 d.1.1 d.1.2.1 d.1.2.2.1 (dw .i64 d.1.2.2.2.1 1) d.1.2.2.2.2.1 d.1.2.2.2.2.2.1) fun e=>bJ (oO q bQ d.2.1 e.1.1 e.1.2.1 e.1.2.2.2.1 e.1.2.2.2.2.1 e.1.2.2.2.2.2.1 e.1.2.2.1) fun f=>xE f)<|bJ (oO q bQ d.2.1 d.1.1 d.1.2.1 (dw .i64 d.1.2.2.2.1 1) d.1.2.2.2.2.1 d.1.2.2.2.2.2.1 d.1.2.2.1) fun e=>xE e) (fun G=>a7)) a7
noncomputable def RU (q:jq):Env:=gz prog tt [] [(186,3,aub),(186,20,ajZ),(186,36,aj0)] [(186,3,akB q),(186,36,aeD q),(186,20,aeC q)] [] [(49,Po),(50,H7),(54,Pq),(119,aiC),(187,U3),(188,aiG),(230,acH q),(231,acI q),(232,amH q),(233,amI q)]
def al2 (q:jq) {d:Type} (a:aae.den->Option d) (b:aaQ.den->Option d) (c:abv.den->Option d) (v:aae.den):Option d:=acf q (fun e f g i j l o p s=>a ((e,f,g,()),((),()),((i,j,l,o,p,()),s,()))) (br b) (c ((),((),()),())) v.1.1 v.1.2.1 v.1.2.2.1 v.2.2.1.1 v.2.2.1.2.1 v.2.2.1.2.2.1 v.2.2.1.2.2.2.1 v.2.2.1.2.2.2.2.1 v.2.2.2.1
theorem aAS (q:jq):dV (RU q) 186 aq5 (akB q):=lg (al2 q) (h2:=by intros;simp only[al2,br,acf,dh,di,bI,cZ,dm])
def afp (q:jq) {d:Type} (a:P6.den->Option d) (b:KE.den->Option d) (c:KH.den->Option d) (v:P6.den):Option d:=bs (UO q (br a) (br b) (c ((),((),()),()))) v
theorem avr (q:jq):dV (RU q) 186 aiX (aeD q):=lg (afp q) (h2:=by intros;simp only[afp,br,bs,UO,dh,di,bI,cZ,dm])
def afo (q:jq) {d:Type} (a:P5.den->Option d) (b:Uh.den->Option d) (c:Uo.den->Option d) (v:P5.den):Option d:=bs (UN q (br a) (br b) (c ((),((),()),()))) v
theorem avq (q:jq):dV (RU q) 186 aiW (aeC q):=lg (afo q) (h2:=by intros;simp only[afo,br,bs,UN,dh,di,bI,cZ,dm])
theorem aEW (q:jq):dO (RU q) 186 aqF:=nM [aq5,aiW,aiX] (aD (fM (aAS q)) (aD (fM (avq q)) (aD (fM (avr q)) aN)))
theorem anH (q:jq) (H:H52 q):eF (RU q):=eB aN [186] (aD ⟨f186,aqF,by kernel_rfl,by kernel_rfl,aEW q⟩ aN) (hx:=(aD oQ (aD kM (aD oU (aD NK (aD Gx (aD XR (aD H.2.2.2.2.1 (aD H.2.2.2.2.2.1 (aD H.2.2.2.2.2.2.2.1 (aD H.2.2.2.2.2.2.2.2 aN)))))))))))
noncomputable def aDJ:Code:=(f232.body).getD .skip
noncomputable def ard:Code:=cA (cA (cA (cB (cA (cB (cB (cB (cB (cA (cB (aDJ)))))))))))
def auj:eQ:=⟨[0,100009],[],[0],[],[],[]⟩
def aam:SQ:=⟨us bN 112,c6,bE⟩
def aaY:SQ:=⟨us bN 112,c6,bE⟩
def abD:SQ:=⟨us [] 113,c6,[]⟩
def aci (q:jq) {g:Type} (s p:(List gm)->bZ->Int->Int->Int->(List gJ)->Option g) (u:Option g) (d:List gm) (i:bZ) (e j l:Int) (o:List gJ):Option g:=cond (gY e (bM d)) (cond (fV d e) (cond (bV (dJ d (0,([],(0,(0,())))) e).1 6) (bJ (L6 d i o e j l 7) fun f=>s f.1.1 f.1.2.1 f.1.2.2.2.1 f.1.2.2.2.2.1 f.1.2.2.2.2.2.1 f.1.2.2.1)<|p d i e j l o) a7)<|p d i e j l o
def Zn (q:jq):Nat->(List gm)->bZ->Int->Int->Int->(List gJ)->Option (aaY.den⊕abD.den)
 |0,_,_,_,_,_,_=>a7
 |n+1,d,e,f,g,i,j=>aci q (Zn q n) (fun l o p s u v=>a6 (.inl ((),((),()),((l,o,p,s,u,()),v,())))) (a6 (.inr ((),((),()),()))) d e f g i j
def az9 (q:jq) (n:Nat) (v:aam.den):=Zn q n v.2.2.1.1 v.2.2.1.2.1 v.2.2.1.2.2.1 v.2.2.1.2.2.2.1 v.2.2.1.2.2.2.2.1 v.2.2.2.1
noncomputable def akJ (q:jq):dE:=fG auj aam aaY abD (.exit 0) (az9 q bQ) 6
def PK (o:Dv) (q:jq):Option Dv:=bJ (qg o.1.1 o.1.2.1 o.1.2.2.1 o.1.2.2.2.1 o.1.2.2.2.2.1 o.1.2.2.2.2.2.1 [59]) fun g=>cond g.2.1 (bJ (Bv g.1.1 g.1.2.1 g.1.2.2.1 (dw .i64 g.1.2.2.2.1 1) g.1.2.2.2.2.1 g.1.2.2.2.2.2.1) fun i=>bJ (q.q231 i.1.1 i.1.2.1 i.1.2.2.1 i.1.2.2.2.1 i.1.2.2.2.2.1 i.1.2.2.2.2.2.1) fun d=>a6 ((d.1.1,(d.1.2.1,(d.1.2.2.1,(d.1.2.2.2.1,(d.1.2.2.2.2.1,(d.1.2.2.2.2.2.1,())))))),()))<|bJ (Bv g.1.1 g.1.2.1 g.1.2.2.1 g.1.2.2.2.1 g.1.2.2.2.2.1 g.1.2.2.2.2.2.1) fun i=>bJ (qg i.1.1 i.1.2.1 i.1.2.2.1 i.1.2.2.2.1 i.1.2.2.2.2.1 i.1.2.2.2.2.2.1 [107]) fun d=>cond d.2.1 (bJ (Zn q bQ d.1.1 d.1.2.1 (dw .i64 d.1.2.2.2.1 1) d.1.2.2.2.2.1 d.1.2.2.2.2.2.1 d.1.2.2.1) fun l=>dW l (fun p=>bJ (qg p.2.2.1.1 p.2.2.1.2.1 p.2.2.2.1 p.2.2.1.2.2.1 p.2.2.1.2.2.2.1 p.2.2.1.2.2.2.2.1 [59]) fun j=>cond j.2.1 (bJ (Bv j.1.1 j.1.2.1 j.1.2.2.1 (dw .i64 j.1.2.2.2.1 1) j.1.2.2.2.2.1 j.1.2.2.2.2.2.1) fun e=>bJ (q.q231 e.1.1 e.1.2.1 e.1.2.2.1 e.1.2.2.2.1 e.1.2.2.2.2.1 e.1.2.2.2.2.2.1) fun f=>a6 ((f.1.1,(f.1.2.1,(f.1.2.2.1,(f.1.2.2.2.1,(f.1.2.2.2.2.1,(f.1.2.2.2.2.2.1,())))))),()))<|bJ (Bv j.1.1 j.1.2.1 j.1.2.2.1 j.1.2.2.2.1 j.1.2.2.2.2.1 j.1.2.2.2.2.2.1) fun e=>cond (bV e.2.1 0) (bJ (uw e.1.1 e.1.2.1 e.1.2.2.1 e.1.2.2.2.1 e.1.2.2.2.2.1 e.1.2.2.2.2.2.1) fun f=>bJ (q.q231 f.1.1 f.1.2.1 f.1.2.2.1 f.1.2.2.2.1 f.1.2.2.2.2.1 f.1.2.2.2.2.2.1) fun s=>a6 ((s.1.1,(s.1.2.1,(s.1.2.2.1,(s.1.2.2.2.1,(s.1.2.2.2.2.1,(s.1.2.2.2.2.2.1,())))))),()))<|bJ (q.q231 e.1.1 e.1.2.1 e.1.2.2.1 e.1.2.2.2.1 e.1.2.2.2.2.1 e.1.2.2.2.2.2.1) fun f=>a6 ((f.1.1,(f.1.2.1,(f.1.2.2.1,(f.1.2.2.2.1,(f.1.2.2.2.2.1,(f.1.2.2.2.2.2.1,())))))),())) (fun u=>a7))<|bJ (q.q231 d.1.1 d.1.2.1 d.1.2.2.1 d.1.2.2.2.1 d.1.2.2.2.2.1 d.1.2.2.2.2.2.1) fun l=>a6 ((l.1.1,(l.1.2.1,(l.1.2.2.1,(l.1.2.2.2.1,(l.1.2.2.2.2.1,(l.1.2.2.2.2.2.1,())))))),())
def aIX (q:jq) (d:List gm) (g:bZ) (i:List gJ) (e j l:Int):Option Dv:=cond (gY e (bM d)) (cond (fV d e) (cond (bV (dJ d (0,([],(0,(0,())))) e).1 6) (cond (fV d e) (bJ (YU (dJ d (0,([],(0,(0,())))) e).2.1) fun f=>cond f.1 (bJ (L6 d g i e j l 7) fun o=>PK o q)<|bJ (uw d g i e j l) fun o=>PK o q) a7)<|bJ (uw d g i e j l) fun f=>PK f q) a7)<|bJ (uw d g i e j l) fun f=>PK f q
noncomputable def agM (q:jq):Env:=gz prog tt [(32,XY)] [(232,9,auj)] [(232,9,akJ q)] [] [(50,H7),(53,amR),(89,Pv),(122,U2),(231,acI q)]
def ama (q:jq) {d:Type} (a:aam.den->Option d) (b:aaY.den->Option d) (c:abD.den->Option d) (v:aam.den):Option d:=aci q (fun e f g i j l=>a ((),((),()),((e,f,g,i,j,()),l,()))) (fun o p s u x y=>b ((),((),()),((o,p,s,u,x,()),y,()))) (c ((),((),()),())) v.2.2.1.1 v.2.2.1.2.1 v.2.2.1.2.2.1 v.2.2.1.2.2.2.1 v.2.2.1.2.2.2.2.1 v.2.2.2.1
theorem aA0 (q:jq):dV (agM q) 232 ard (akJ q):=lg (ama q) (h2:=by intros;simp only[ama,aci,dh,di,bI,cZ,dm])
theorem aE3 (q:jq):dO (agM q) 232 aDJ:=nM [ard] (aD (fM (aA0 q)) aN)
theorem anS (q:jq) (H:H52 q):eF (agM q):=eB (aD EQ aN) [232] (aD ⟨f232,aDJ,by kernel_rfl,by kernel_rfl,aE3 q⟩ aN) (hx:=(aD kM (aD Lt (aD wW (aD vU (aD H.2.2.2.2.2.1 aN))))))
noncomputable def ayw:Code:=(f233.body).getD .skip
noncomputable def aiZ:Code:=cA (cA (cA (cB (cB (cB (cA (cB (cA (cA (cA (cB (cB (cB (cB (cB (ayw))))))))))))))))
noncomputable def arf:Code:=cA (cA (cA (cB (cB (cB (cB (cB (ayw))))))))
def aj2:eQ:=⟨[0,3,100010],[],[0,3],[],[],[]⟩
def auk:eQ:=⟨[0,2,100005],[],[0],[],[],[]⟩
def P8:SQ:=⟨us ey 96,c6,bE⟩
def Uj:SQ:=⟨us ey 96,c6,bE⟩
def Us:SQ:=⟨us [] 100,c6,[]⟩
def UQ (q:jq) {f:Type} (i j:Int->(List gm)->bZ->Int->Int->Int->(List gJ)->Option f) (x:Option f) (g:Int) (l:List gm) (o:bZ) (p s u:Int) (v:List gJ):Option f:=bJ (qg l o v p s u [124]) fun d=>cond d.2.1 (bJ (Di d.1.1 d.1.2.1 d.1.2.2.1 (dw .i64 d.1.2.2.2.1 1) d.1.2.2.2.2.1 d.1.2.2.2.2.2.1) fun e=>i g e.1.1 e.1.2.1 e.1.2.2.2.1 e.1.2.2.2.2.1 e.1.2.2.2.2.2.1 e.1.2.2.1)<|j g d.1.1 d.1.2.1 d.1.2.2.2.1 d.1.2.2.2.2.1 d.1.2.2.2.2.2.1 d.1.2.2.1
def TE (q:jq):Nat->Int->(List gm)->bZ->Int->Int->Int->(List gJ)->Option (Uj.den⊕Us.den)
 |0,_,_,_,_,_,_,_=>a7
 |n+1,d,e,f,g,i,j,l=>UQ q (TE q n) (fun o p s u v x y=>a6 (.inl ((o,()),((),()),((p,s,u,v,x,()),y,())))) (a6 (.inr ((),((),()),()))) d e f g i j l
def auQ (q:jq) (n:Nat) (v:P8.den):=bs (TE q n) v
noncomputable def aeF (q:jq):dE:=fG aj2 P8 Uj Us (.exit 2) (auQ q bQ) 6
def aan:SQ:=⟨us [co,.u,b9] 97,c6,bE⟩
def aaZ:SQ:=⟨us bN 99,c6,bE⟩
def abE:SQ:=⟨us [] 100,c6,[]⟩
def AA {u:Type} (q:jq) (v:(taF×Dc)) (j:Dv) (s:Bool->(List gm)->bZ->Int->Int->Int->(List gJ)->Option u) (x:Option u):Option u:=bJ (TE q bQ v.2.1 j.1.1 j.1.2.1 j.1.2.2.2.1 j.1.2.2.2.2.1 j.1.2.2.2.2.2.1 j.1.2.2.1) fun y=>dW y (fun i=>bJ (uy i.2.2.1.1 i.2.2.1.2.1 i.2.2.2.1 i.2.2.1.2.2.1 i.2.2.1.2.2.2.1 i.2.2.1.2.2.2.2.1 [41]) fun l=>bJ (Bv l.1.1 l.1.2.1 l.1.2.2.1 l.1.2.2.2.1 l.1.2.2.2.2.1 l.1.2.2.2.2.2.1) fun o=>bJ (YW o.1.1 o.1.2.1 o.1.2.2.1 o.1.2.2.2.1 o.1.2.2.2.2.1 o.1.2.2.2.2.2.1) fun f=>cond f.2.1 (bJ (q.q52 f.1.1 f.1.2.1 f.1.2.2.1 f.1.2.2.2.1 f.1.2.2.2.2.1 f.1.2.2.2.2.2.1) fun g=>bJ (wK g.1.1 g.1.2.1 g.1.2.2.1 g.1.2.2.2.1 g.1.2.2.2.2.1 g.1.2.2.2.2.2.1 i.1.1) fun d=>bJ (qg d.1.1 d.1.2.1 d.1.2.2.1 d.1.2.2.2.1 d.1.2.2.2.2.1 d.1.2.2.2.2.2.1 [121]) fun e=>cond e.2.1 (bJ (Bv e.1.1 e.1.2.1 e.1.2.2.1 (dw .i64 e.1.2.2.2.1 1) e.1.2.2.2.2.1 e.1.2.2.2.2.2.1) fun p=>s e.2.1 p.1.1 p.1.2.1 p.1.2.2.2.1 p.1.2.2.2.2.1 p.1.2.2.2.2.2.1 p.1.2.2.1)<|s e.2.1 e.1.1 e.1.2.1 e.1.2.2.2.1 e.1.2.2.2.2.1 e.1.2.2.2.2.2.1 e.1.2.2.1)<|bJ (wK f.1.1 f.1.2.1 f.1.2.2.1 f.1.2.2.2.1 f.1.2.2.2.2.1 f.1.2.2.2.2.2.1 i.1.1) fun g=>bJ (qg g.1.1 g.1.2.1 g.1.2.2.1 g.1.2.2.2.1 g.1.2.2.2.2.1 g.1.2.2.2.2.2.1 [121]) fun d=>cond d.2.1 (bJ (Bv d.1.1 d.1.2.1 d.1.2.2.1 (dw .i64 d.1.2.2.2.1 1) d.1.2.2.2.2.1 d.1.2.2.2.2.2.1) fun e=>s d.2.1 e.1.1 e.1.2.1 e.1.2.2.2.1 e.1.2.2.2.2.1 e.1.2.2.2.2.2.1 e.1.2.2.1)<|s d.2.1 d.1.1 d.1.2.1 d.1.2.2.2.1 d.1.2.2.2.2.1 d.1.2.2.2.2.2.1 d.1.2.2.1) (fun z=>x)
def acj (q:jq) {i:Type} (j:Bool->(List gm)->bZ->Int->Int->Int->(List gJ)->Option i) (l:(List gm)->bZ->Int->Int->Int->(List gJ)->Option i) (o:Option i) (A:Bool) (s:List gm) (u:bZ) (v x y:Int) (z:List gJ):Option i:=cond A (bJ (qg s u z v x y [40]) fun d=>cond d.2.1 (bJ (GM d.1.1 d.1.2.1 d.1.2.2.1 d.1.2.2.2.1 d.1.2.2.2.2.1 d.1.2.2.2.2.2.1 15) fun e=>bJ (qg e.1.1 e.1.2.1 e.1.2.2.1 e.1.2.2.2.1 e.1.2.2.2.2.1 e.1.2.2.2.2.2.1 [40]) fun f=>cond f.2.1 (bJ (Di f.1.1 f.1.2.1 f.1.2.2.1 (dw .i64 f.1.2.2.2.1 1) f.1.2.2.2.2.1 f.1.2.2.2.2.2.1) fun g=>AA q e g j o)<|bJ (Di f.1.1 f.1.2.1 f.1.2.2.1 f.1.2.2.2.1 f.1.2.2.2.2.1 f.1.2.2.2.2.2.1) fun g=>AA q e g j o)<|cond (gY d.1.2.2.2.1 (bM d.1.1)) (cond (fV d.1.1 d.1.2.2.2.1) (cond (bV (dJ d.1.1 (0,([],(0,(0,())))) d.1.2.2.2.1).1 6) (bJ (qg d.1.1 d.1.2.1 d.1.2.2.1 d.1.2.2.2.1 d.1.2.2.2.2.1 d.1.2.2.2.2.2.1 [122]) fun e=>cond (!e.2.1) (bJ (GM e.1.1 e.1.2.1 e.1.2.2.1 e.1.2.2.2.1 e.1.2.2.2.2.1 e.1.2.2.2.2.2.1 15) fun f=>bJ (qg f.1.1 f.1.2.1 f.1.2.2.1 f.1.2.2.2.1 f.1.2.2.2.2.1 f.1.2.2.2.2.2.1 [40]) fun g=>cond g.2.1 (bJ (Di g.1.1 g.1.2.1 g.1.2.2.1 (dw .i64 g.1.2.2.2.1 1) g.1.2.2.2.2.1 g.1.2.2.2.2.2.1) fun p=>AA q f p j o)<|bJ (Di g.1.1 g.1.2.1 g.1.2.2.1 g.1.2.2.2.1 g.1.2.2.2.2.1 g.1.2.2.2.2.2.1) fun p=>AA q f p j o)<|l e.1.1 e.1.2.1 e.1.2.2.2.1 e.1.2.2.2.2.1 e.1.2.2.2.2.2.1 e.1.2.2.1)<|l d.1.1 d.1.2.1 d.1.2.2.2.1 d.1.2.2.2.2.1 d.1.2.2.2.2.2.1 d.1.2.2.1) a7)<|l d.1.1 d.1.2.1 d.1.2.2.2.1 d.1.2.2.2.2.1 d.1.2.2.2.2.2.1 d.1.2.2.1)<|l s u v x y z
def Zo (q:jq):Nat->Bool->(List gm)->bZ->Int->Int->Int->(List gJ)->Option (aaZ.den⊕abE.den)
 |0,_,_,_,_,_,_,_=>a7
 |n+1,d,e,f,g,i,j,l=>acj q (Zo q n) (fun o p s u v x=>a6 (.inl ((),((),()),((o,p,s,u,v,()),x,())))) (a6 (.inr ((),((),()),()))) d e f g i j l
def aAa (q:jq) (n:Nat) (v:aan.den):=bs (Zo q n) v
noncomputable def akK (q:jq):dE:=fG auk aan aaZ abE (.exit 0) (aAa q bQ) 12
def aIY (q:jq) (l:List gm) (o:bZ) (p:List gJ) (s u v:Int):Option Dv:=bJ (Di l o p s u v) fun d=>bJ (Bv d.1.1 d.1.2.1 d.1.2.2.1 d.1.2.2.2.1 d.1.2.2.2.2.1 d.1.2.2.2.2.2.1) fun e=>bJ (uy e.1.1 e.1.2.1 e.1.2.2.1 e.1.2.2.2.1 e.1.2.2.2.2.1 e.1.2.2.2.2.2.1 [107]) fun f=>bJ (Bv f.1.1 f.1.2.1 f.1.2.2.1 f.1.2.2.2.1 f.1.2.2.2.2.1 f.1.2.2.2.2.2.1) fun g=>bJ (Zo q bQ true g.1.1 g.1.2.1 g.1.2.2.2.1 g.1.2.2.2.2.1 g.1.2.2.2.2.2.1 g.1.2.2.1) fun x=>dW x (fun i=>bJ (uy i.2.2.1.1 i.2.2.1.2.1 i.2.2.2.1 i.2.2.1.2.2.1 i.2.2.1.2.2.2.1 i.2.2.1.2.2.2.2.1 [122]) fun j=>a6 ((j.1.1,(j.1.2.1,(j.1.2.2.1,(j.1.2.2.2.1,(j.1.2.2.2.2.1,(j.1.2.2.2.2.2.1,())))))),())) (fun y=>a7)
noncomputable def YC (q:jq):Env:=gz prog tt [] [(233,10,aj2),(233,5,auk)] [(233,10,aeF q),(233,5,akK q)] [] [(49,Po),(50,H7),(51,XZ),(52,aiI q),(54,Pq),(89,Pv),(187,U3),(234,axt)]
def afr (q:jq) {d:Type} (a:P8.den->Option d) (b:Uj.den->Option d) (c:Us.den->Option d) (v:P8.den):Option d:=bs (UQ q (br a) (br b) (c ((),((),()),()))) v
theorem avt (q:jq):dV (YC q) 233 aiZ (aeF q):=lg (afr q) (h2:=by intros;simp only[afr,br,bs,UQ,dh,di,bI,cZ,dm])
def amb (q:jq) {d:Type} (a:aan.den->Option d) (b:aaZ.den->Option d) (c:abE.den->Option d) (v:aan.den):Option d:=bs (acj q (br a) (fun e f g i j l=>b ((),((),()),((e,f,g,i,j,()),l,()))) (c ((),((),()),()))) v
theorem aA1 (q:jq):dV (YC q) 233 arf (akK q):=lg (amb q) (h2:=by intros;simp only[amb,br,bs,acj,dh,di,bI,cZ,dm,AA])
theorem aE4 (q:jq):dO (YC q) 233 ayw:=nM [aiZ,arf] (aD (fM (avt q)) (aD (fM (aA1 q)) aN))
theorem anT (q:jq) (H:H52 q):eF (YC q):=eB aN [233] (aD ⟨f233,ayw,by kernel_rfl,by kernel_rfl,aE4 q⟩ aN) (hx:=(aD oQ (aD kM (aD ER (aD H.1 (aD oU (aD wW (aD Gx (aD XW aN)))))))))
def jB:Nat->jq
 |0=>⟨(fun _ _ _ _ _ _=>a7),(fun _ _ _ _ _ _=>a7),(fun _ _ _ _ _ _=>a7),(fun _ _ _ _ _ _=>a7),(fun _ _ _ _ _ _=>a7),(fun _ _ _ _ _ _=>a7),(fun _ _ _ _ _ _=>a7),(fun _ _ _ _ _ _=>a7),(fun _ _ _ _ _ _=>a7)⟩
 |r+1=>⟨aD8 (jB r),aD9 (jB r),as1 (jB r),aIT (jB r),as4 (jB r),aIW (jB r),aIU (jB r),aIX (jB r),aIY (jB r)⟩
def aJs (d:List gm) (e:bZ) (f:List gJ) (g i j:Int):Option Dv:=(jB bQ).q52 d e f g i j
def aCZ:fF:=⟨100,Ja,[],[],fun x y=>aJs x.1 x.2.1 x.2.2.1 x.2.2.2.1 x.2.2.2.2.1 x.2.2.2.2.2.1⟩
def aLX (d:List gm) (e:bZ) (f:List gJ) (g i j:Int):Option Dv:=(jB bQ).q88 d e f g i j
def aKH:fF:=⟨100,Ja,[],[],fun x y=>aLX x.1 x.2.1 x.2.2.1 x.2.2.2.1 x.2.2.2.2.1 x.2.2.2.2.2.1⟩
def aI8 (d:List gm) (e:bZ) (f:List gJ) (g i j:Int):Option Dv:=(jB bQ).q121 d e f g i j
def aGo:fF:=⟨100,Ja,[],[],fun x y=>aI8 x.1 x.2.1 x.2.2.1 x.2.2.2.1 x.2.2.2.2.1 x.2.2.2.2.2.1⟩
def aJa (d:List gm) (e:bZ) (f:List gJ) (g i j:Int):Option Dv:=(jB bQ).q155 d e f g i j
def aGD:fF:=⟨100,Ja,[],[],fun x y=>aJa x.1 x.2.1 x.2.2.1 x.2.2.2.1 x.2.2.2.2.1 x.2.2.2.2.2.1⟩
def aJf (d:List gm) (e:bZ) (f:List gJ) (g i j:Int):Option Dv:=(jB bQ).q230 d e f g i j
def aGX:fF:=⟨100,Ja,[],[],fun x y=>aJf x.1 x.2.1 x.2.2.1 x.2.2.2.1 x.2.2.2.2.1 x.2.2.2.2.2.1⟩
def aJg (d:List gm) (e:bZ) (f:List gJ) (g i j:Int):Option Dv:=(jB bQ).q231 d e f g i j
def aGY:fF:=⟨100,Ja,[],[],fun x y=>aJg x.1 x.2.1 x.2.2.1 x.2.2.2.1 x.2.2.2.2.1 x.2.2.2.2.2.1⟩
def aJc (d:List gm) (e:bZ) (f:List gJ) (g i j:Int):Option Dv:=(jB bQ).q186 d e f g i j
def aGN:fF:=⟨100,Ja,[],[],fun x y=>aJc x.1 x.2.1 x.2.2.1 x.2.2.2.1 x.2.2.2.2.1 x.2.2.2.2.2.1⟩
def aJh (d:List gm) (e:bZ) (f:List gJ) (g i j:Int):Option Dv:=(jB bQ).q232 d e f g i j
def aGZ:fF:=⟨100,Ja,[],[],fun x y=>aJh x.1 x.2.1 x.2.2.1 x.2.2.2.1 x.2.2.2.2.1 x.2.2.2.2.2.1⟩
def aJi (d:List gm) (e:bZ) (f:List gJ) (g i j:Int):Option Dv:=(jB bQ).q233 d e f g i j
def aG0:fF:=⟨100,Ja,[],[],fun x y=>aJi x.1 x.2.1 x.2.2.1 x.2.2.2.1 x.2.2.2.2.1 x.2.2.2.2.2.1⟩
theorem abc (q:jq) (d:H52 q):H52 ⟨aD8 q,aD9 q,as1 q,aIT q,as4 q,aIW q,aIU q,aIX q,aIY q⟩:=⟨sB (aso q d),sB (asH q d),sB (anl q d),sB (anA q d),sB (anQ q d),sB (anR q d),sB (anH q d),sB (anS q d),sB (anT q d)⟩
theorem zt: ∀r,H52 (jB r)
 |0=>⟨mY fun _ _=>rfl,mY fun _ _=>rfl,mY fun _ _=>rfl,mY fun _ _=>rfl,mY fun _ _=>rfl,mY fun _ _=>rfl,mY fun _ _=>rfl,mY fun _ _=>rfl,mY fun _ _=>rfl⟩
 |r+1=>abc _ (zt r)
theorem axL:dL prog 52 aCZ:=(zt bQ).1
theorem aKI:dL prog 88 aKH:=(zt bQ).2.1
theorem aHI:dL prog 121 aGo:=(zt bQ).2.2.1
theorem aHK:dL prog 155 aGD:=(zt bQ).2.2.2.1
theorem aHP:dL prog 230 aGX:=(zt bQ).2.2.2.2.1
theorem aHQ:dL prog 231 aGY:=(zt bQ).2.2.2.2.2.1
theorem aHM:dL prog 186 aGN:=(zt bQ).2.2.2.2.2.2.1
theorem aHR:dL prog 232 aGZ:=(zt bQ).2.2.2.2.2.2.2.1
theorem aHS:dL prog 233 aG0:=(zt bQ).2.2.2.2.2.2.2.2
noncomputable def b29:Code:=(Tryz.f29.body).getD .skip
noncomputable def aBR:Code:=cA (cA (cB (cA (cB (cB (b29))))))
noncomputable def aBS:Code:=cA (cA (cA (cB (cB (cB (cB (cB (cB (b29)))))))))
def aCk:eQ:=⟨[0,3,4,100003],[],[0,3],[],[2],[(2,nO)]⟩
def aCl:eQ:=⟨[0,5,6,7,100009],[],[5,6],[],[2],[(2,nO)]⟩
def ak8:SP:=⟨us [.v oI,.u,.u,bO,bR] 56,[]⟩
def ahL:SP:=⟨us [.v oI,.u,.u,bO] 57,[]⟩
def ah6:SP:=⟨us [.u,.u,eR] 58,[]⟩
def aix {e:Type} (j:(List gm)->bZ->Int->Option e) (l:(List gm)->bZ->Option e) (o:(List gJ)->Option e) (d:List gm) (g:bZ) (f:Int):Option e:=cond (gY f (bM d)) (cond (fV d f) (bJ (Ir (dJ d (0,([],(0,(0,())))) f)) fun i=>cond (gV g i.1) (j d (bT g i.1) (dw .i64 f 1)) a7) a7)<|l d g
def ahx:Nat->(List gm)->bZ->Int->Option (ahL.den⊕ah6.den)
 |0,_,_,_=>a7
 |n+1,d,e,f=>aix (ahx n) (fun g i=>a6 (.inl ((g,i,()),()))) (fun j=>a6 (.inr ((j,()),()))) d e f
def aFi (n:Nat) (v:ak8.den):=aR (ahx n) v
noncomputable def auW:dE:=fU aCk ak8 ahL ah6 (.exit 0) (aFi bQ) 6
def ak9:SP:=⟨us [.v oI,.u,.u,.u,.u,.ptr 1000024 0,bR,bR] 53,dr⟩
def ahM:SP:=⟨us [.u,.u,.u,.u,.u,.ptr 1000024 0,bR] 54,dr⟩
def ah7:SP:=⟨us [.u,.u,eR] 58,[]⟩
def aiy {j:Type} (l:(List gm)->Int->Int->(List gJ)->(List gm)->bZ->Int->Int->Int->Option j) (y:Int->(List gJ)->(List gm)->bZ->Int->Int->Int->Option j) (z:(List gJ)->Option j) (g:List gm) (i p:Int) (q:List gJ) (s:List gm) (u:bZ) (o v x:Int):Option j:=cond (gY o (bM g)) (bJ (qg s u q o v x [110]) fun e=>cond e.2.1 (l g i p e.1.2.2.1 e.1.1 e.1.2.1 (dw .i64 e.1.2.2.2.1 1) e.1.2.2.2.2.1 e.1.2.2.2.2.2.1)<|cond (!(bV p 2)) (bJ (YW e.1.1 e.1.2.1 e.1.2.2.1 e.1.2.2.2.1 e.1.2.2.2.2.1 e.1.2.2.2.2.2.1) fun d=>cond d.2.1 (bJ (aJs d.1.1 d.1.2.1 d.1.2.2.1 d.1.2.2.2.1 d.1.2.2.2.2.1 d.1.2.2.2.2.2.1) fun f=>l g i 2 f.1.2.2.1 f.1.1 f.1.2.1 f.1.2.2.2.1 f.1.2.2.2.2.1 f.1.2.2.2.2.2.1)<|bJ (L6 d.1.1 d.1.2.1 d.1.2.2.1 d.1.2.2.2.1 d.1.2.2.2.2.1 d.1.2.2.2.2.2.1 17) fun f=>l g i 17 f.1.2.2.1 f.1.1 f.1.2.1 f.1.2.2.2.1 f.1.2.2.2.2.1 f.1.2.2.2.2.2.1)<|bJ (L6 e.1.1 e.1.2.1 e.1.2.2.1 e.1.2.2.2.1 e.1.2.2.2.2.1 e.1.2.2.2.2.2.1 17) fun d=>l g i 17 d.1.2.2.1 d.1.1 d.1.2.1 d.1.2.2.2.1 d.1.2.2.2.2.1 d.1.2.2.2.2.2.1)<|y i q s u o v x
def ahy:Nat->(List gm)->Int->Int->(List gJ)->(List gm)->bZ->Int->Int->Int->Option (ahM.den⊕ah7.den)
 |0,_,_,_,_,_,_,_,_,_=>a7
 |n+1,d,e,f,g,i,j,l,o,p=>aiy (ahy n) (fun q s u v x y z=>a6 (.inl ((q,()),(s,(u,v,x,y,z,()),())))) (fun A=>a6 (.inr ((A,()),()))) d e f g i j l o p
def aFj (n:Nat) (v:ak9.den):=ahy n v.1.1 v.1.2.1 v.1.2.2.1 v.2.1 v.2.2.1.1 v.2.2.1.2.1 v.2.2.1.2.2.1 v.2.2.1.2.2.2.1 v.2.2.1.2.2.2.2.1
noncomputable def auX:dE:=fU aCl ak9 ahM ah7 (.exit 2) (aFj bQ) 12
def aLW (g:List gm):Option ((List gJ)×Unit):=bJ (ahx bQ g [] 0) fun i=>dW i (fun f=>bJ (GM f.1.1 f.1.2.1 [] 0 (-1) 0 1) fun d=>bJ (ahy bQ f.1.1 d.2.1 0 d.1.2.2.1 d.1.1 d.1.2.1 d.1.2.2.2.1 d.1.2.2.2.2.1 d.1.2.2.2.2.2.1) fun j=>dW j (fun e=>bJ (wK e.2.2.1.1 e.2.2.1.2.1 e.2.1 e.2.2.1.2.2.1 e.2.2.1.2.2.2.1 e.2.2.1.2.2.2.2.1 e.1.1) fun l=>a6 (l.1.2.2.1,())) (fun o=>a6 (o.1.1,()))) (fun p=>a6 (p.1.1,()))
def aKA:Sum:=⟨[oI],[(.list nO,false)],fun x=>aLW x.1⟩
noncomputable def ajb:Env:=iO prog tt 29 [(48,aCY)] [(3,aCk),(9,aCl)] [(3,auW),(9,auX)] [(49,Po),(50,H7),(51,XZ),(52,aCZ),(53,amR),(54,Pq)]
def av1 {d:Type} (a:ak8.den->Option d) (b:ahL.den->Option d) (c:ah6.den->Option d) (v:ak8.den):Option d:=aR (aix (fun e f g=>a ((e,f,g,()),())) (aL b) (aE c)) v
theorem aFM:dV ajb 29 aBR auW:=xh (av1) (h2:=by intros;simp only[av1,aL,aE,aR,aix,dh,di,bI,cZ,dm])
def av2 {d:Type} (a:ak9.den->Option d) (b:ahM.den->Option d) (c:ah7.den->Option d) (v:ak9.den):Option d:=aiy (fun e f g i j l o p q=>a ((e,f,g,()),(i,(j,l,o,p,q,()),()))) (fun s u x y z A B=>b ((s,()),(u,(x,y,z,A,B,()),()))) (aE c) v.1.1 v.1.2.1 v.1.2.2.1 v.2.1 v.2.2.1.1 v.2.2.1.2.1 v.2.2.1.2.2.1 v.2.2.1.2.2.2.1 v.2.2.1.2.2.2.2.1
theorem aFN:dV ajb 29 aBS auX:=xh (av2) (h2:=by intros;simp only[av2,aE,aiy,dh,di,bI,cZ,dm])
theorem aJS:dO ajb 29 b29:=nM [aBR,aBS] (aD (fM (aFM)) (aD (fM (aFN)) aN))
theorem ar2:eF ajb:=eA Tryz.f29 (aD axK aN) (aJS) (hx:=(aD oQ (aD kM (aD ER (aD axL (aD Lt (aD oU aN)))))))
theorem aKB:dR prog 29 aKA:=sA ar2
end
end Go.Proofs.YtlhpdcadgbjhiaaGreatDoor
