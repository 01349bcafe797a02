/- Parts of the proof, joined and shortened by a program: the plain machine, the functions as it prints them, and the mathematics over them. -/
import Derived.Test.YtkichehglnecnaaGreatDoorZ3
import Derived.Test.YtkichehglnecnaaGreatDoorZ4
set_option linter.unusedVariables false
set_option linter.unusedSimpArgs false
set_option maxRecDepth 100000
set_option maxHeartbeats 4000000
namespace Go.Proofs.YtkichehglnecnaaGreatDoor
section
open Option renaming some → a6, none → a7
open Tryz
open Go.RowKit
def aEP (d:Int):Option vJ:=cond (leI 4 d) (a6 ((leI d 12),()))<|some (false,())
def aJv:Sum:=⟨[dA],YI,fun x=>aEP x.1⟩
theorem asx:dU prog 148 aJv:=qA f148 [] aN
def amj (e:bV):Option AQ:=bJ (ab8 e) fun d=>cond (bY d.1 1) (a6 (97,()))<|cond (bY d.1 2) (a6 (111,()))<|cond (bY d.1 3) (a6 (121,()))<|bJ (aEP d.1) fun f=>cond f.1 (a6 (60,()))<|cond (!(bY d.1 0)) (cond (gy e 0) (a6 ((cu e 0),())) a7)<|some (63,())
def aJo:Sum:=⟨[.str],[(.int .u8,false)],fun x=>amj x.1⟩
theorem ase:dU prog 102 aJo:=qA f102 [] (sE Px (sE asx aN))
def abU (d:bV):Option AQ:=cond (gp d [100,111]) (a6 (100,()))<|cond (gp d [100,111,110,101]) (a6 (103,()))<|cond (gp d [102,111,114]) (a6 (114,()))<|cond (gp d [105,110]) (a6 (107,()))<|cond (gp d [99,97,115,101]) (a6 (99,()))<|cond (gp d [101,115,97,99]) (a6 (122,()))<|some (120,())
def TN (d:bV):Option AQ:=cond (gp d [105,102]) (a6 (105,()))<|cond (gp d [116,104,101,110]) (a6 (116,()))<|cond (gp d [101,108,105,102]) (a6 (101,()))<|cond (gp d [101,108,115,101]) (a6 (108,()))<|cond (gp d [102,105]) (a6 (102,()))<|cond (gp d [119,104,105,108,101]) (cond (gp d [119,104,105,108,101]) (a6 (119,()))<|abU d)<|cond (gp d [117,110,116,105,108]) (a6 (119,()))<|abU d
def amk (d:bV):Option AQ:=cond (gp d [33]) (cond (gp d [33]) (cond (gy d 0) (a6 ((cu d 0),())) a7)<|TN d)<|cond (gp d [123]) (cond (gp d [123]) (cond (gy d 0) (a6 ((cu d 0),())) a7)<|TN d)<|cond (gp d [125]) (cond (gy d 0) (a6 ((cu d 0),())) a7)<|TN d
def aJp:Sum:=⟨[.str],[(.int .u8,false)],fun x=>amk x.1⟩
theorem asf:dU prog 103 aJp:=qA f103 [] aN
def ajC (d:gJ):Option AQ:=cond (bY d.1 2) (a6 (110,()))<|cond (bY d.1 4) (bJ (amj d.2.1) fun e=>a6 (e.1,()))<|cond (bY d.1 5) (a6 (35,()))<|cond (bY d.1 6) (bJ (amk d.2.1) fun e=>a6 (e.1,()))<|some (63,())
def aNj:Sum:=⟨[tyD],[(.int .u8,false)],fun x=>ajC x.1⟩
theorem aAm:dU prog 64 aNj:=qA f64 [] (sE ase (sE asf aN))
def Bi (d:List gJ) (e:Int) (g:List gQ) (i j f:Int):Option (((List gJ)×Int×(List gQ)×Int×Int×Unit)×AQ):=cond (leI (bK d) (cO .i64 e f)) (a6 ((d,(e,(g,(i,(j,()))))),(0,())))<|cond (gy d (cO .i64 e f)) (bJ (ajC (ed d (0,([],(0,(0,())))) (cO .i64 e f))) fun l=>a6 ((d,(e,(g,(i,(j,()))))),(l.1,()))) a7
def alD:fZ:=⟨117,AA,[dA],[.int .u8],fun x y=>Bi x.1 x.2.1 x.2.2.1 x.2.2.2.1 x.2.2.2.2.1 y.1⟩
theorem vG:dQ prog 153 alD:=qB [] (sE aAm aN)
def ZQ (e:List gJ) (f:Int) (g:List gQ) (i j:Int) (l:bV):Option taN:=bJ (Bi e f g i j 0) fun d=>cond (!(bY d.2.1 0)) (bJ (agC l d.2.1) fun m=>a6 ((d.1.1,(d.1.2.1,(d.1.2.2.1,(d.1.2.2.2.1,(d.1.2.2.2.2.1,()))))),((leI 0 m.1),())))<|some ((d.1.1,(d.1.2.1,(d.1.2.2.1,(d.1.2.2.2.1,(d.1.2.2.2.2.1,()))))),(false,()))
def azE:fZ:=⟨117,AA,[.str],[.bool],fun x y=>ZQ x.1 x.2.1 x.2.2.1 x.2.2.2.1 x.2.2.2.2.1 y.1⟩
theorem Q4:dQ prog 152 azE:=qB [] (sE aaV aN) (sF vG aN)
def mf (e:List gJ) (f:Int) (g:List gQ) (i j:Int) (l:bV):Option taN:=bJ (ZQ e f g i j l) fun d=>cond (!d.2.1) (a6 ((d.1.1,(d.1.2.1,(d.1.2.2.1,(d.1.2.2.2.1,(d.1.2.2.2.2.1,()))))),(false,())))<|some ((d.1.1,((cO .i64 d.1.2.1 1),(d.1.2.2.1,(d.1.2.2.2.1,(d.1.2.2.2.2.1,()))))),(true,()))
def Aq:fZ:=⟨117,AA,[.str],[.bool],fun x y=>mf x.1 x.2.1 x.2.2.1 x.2.2.2.1 x.2.2.2.2.1 y.1⟩
theorem lZ:dQ prog 106 Aq:=qB [] aN (sF Q4 aN)
def agD (f:List gJ) (g:Int) (i:List gQ) (j l:Int):Option taN:=bJ (Bi f g i j l 0) fun d=>cond (bY d.2.1 60) (a6 ((d.1.1,(d.1.2.1,(d.1.2.2.1,(d.1.2.2.2.1,(d.1.2.2.2.2.1,()))))),(true,())))<|cond (bY d.2.1 35) (bJ (Bi d.1.1 d.1.2.1 d.1.2.2.1 d.1.2.2.2.1 d.1.2.2.2.2.1 1) fun e=>a6 ((e.1.1,(e.1.2.1,(e.1.2.2.1,(e.1.2.2.2.1,(e.1.2.2.2.2.1,()))))),((bY e.2.1 60),())))<|some ((d.1.1,(d.1.2.1,(d.1.2.2.1,(d.1.2.2.2.1,(d.1.2.2.2.2.1,()))))),(false,()))
def aJP:fZ:=⟨117,AA,[],[.bool],fun x y=>agD x.1 x.2.1 x.2.2.1 x.2.2.2.1 x.2.2.2.2.1⟩
theorem aaW:dQ prog 203 aJP:=qB [] aN (sF vG aN)
def ZU (f:List gJ) (g:Int) (i:List gQ) (j e:Int):Option taN:=cond (iF e 200) (bJ (ZQ f g i j e [123,40,105,119,114,99]) fun d=>a6 ((d.1.1,(d.1.2.1,(d.1.2.2.1,(d.1.2.2.2.1,(d.1.2.2.2.2.1,()))))),(d.2.1,())))<|some ((f,(g,(i,(j,(e,()))))),(false,()))
def alG:fZ:=⟨117,AA,[],[.bool],fun x y=>ZU x.1 x.2.1 x.2.2.1 x.2.2.2.1 x.2.2.2.2.1⟩
theorem Q8:dQ prog 204 alG:=qB [] aN (sF Q4 aN)
def ags (g:List gJ) (i:Int) (j:List gQ) (l m:Int):Option taN:=bJ (Bi g i j l m 0) fun d=>cond (bY d.2.1 120) (a6 ((d.1.1,(d.1.2.1,(d.1.2.2.1,(d.1.2.2.2.1,(d.1.2.2.2.2.1,()))))),(true,())))<|bJ (agD d.1.1 d.1.2.1 d.1.2.2.1 d.1.2.2.2.1 d.1.2.2.2.2.1) fun e=>cond e.2.1 (a6 ((e.1.1,(e.1.2.1,(e.1.2.2.1,(e.1.2.2.2.1,(e.1.2.2.2.2.1,()))))),(true,())))<|bJ (ZU e.1.1 e.1.2.1 e.1.2.2.1 e.1.2.2.2.1 e.1.2.2.2.2.1) fun f=>a6 ((f.1.1,(f.1.2.1,(f.1.2.2.1,(f.1.2.2.2.1,(f.1.2.2.2.2.1,()))))),(f.2.1,()))
def azF:fZ:=⟨117,AA,[],[.bool],fun x y=>ags x.1 x.2.1 x.2.2.1 x.2.2.2.1 x.2.2.2.2.1⟩
theorem aaP:dQ prog 154 azF:=qB [] aN (sF vG (sF aaW (sF Q8 aN)))
def Kt (f:List gJ) (g:Int) (i:List gQ) (j l:Int):Option taN:=bJ (Bi f g i j l 0) fun d=>cond (bY d.2.1 33) (a6 ((d.1.1,(d.1.2.1,(d.1.2.2.1,(d.1.2.2.2.1,(d.1.2.2.2.2.1,()))))),(true,())))<|bJ (ags d.1.1 d.1.2.1 d.1.2.2.1 d.1.2.2.2.1 d.1.2.2.2.2.1) fun e=>a6 ((e.1.1,(e.1.2.1,(e.1.2.2.1,(e.1.2.2.2.1,(e.1.2.2.2.2.1,()))))),(e.2.1,()))
def QW:fZ:=⟨117,AA,[],[.bool],fun x y=>Kt x.1 x.2.1 x.2.2.1 x.2.2.2.1 x.2.2.2.2.1⟩
theorem Ez:dQ prog 107 QW:=qB [] aN (sF vG (sF aaP aN))
noncomputable def aGr:Code:=(f156.body).getD .skip
noncomputable def atU:Code:=cA (cA (cA (cB (cB (aGr)))))
def acs:fJ:=⟨[0,3,100002],[],[3],[],[2],[]⟩
def ac2:SQ:=⟨[cz,.u,.u,cf,.u,.u,.u,.u,.u],dy,ef⟩
def adF:SQ:=⟨[.u,.u,.u,cf,.u,.u,.u,.u,.u],dy,ef⟩
def aef:SQ:=⟨us [.u,.u,cf] 6,dy,[]⟩
def UF {e:Type} (g i:Bool->(List gJ)->Int->Int->Int->(List gQ)->Option e) (q:Bool->Option e) (f:Bool) (j:List gJ) (l m o:Int) (p:List gQ):Option e:=bJ (mf j l p m o [110]) fun d=>cond d.2.1 (g f d.1.1 d.1.2.1 d.1.2.2.2.1 d.1.2.2.2.2.1 d.1.2.2.1)<|i f d.1.1 d.1.2.1 d.1.2.2.2.1 d.1.2.2.2.2.1 d.1.2.2.1
def Ob:Nat->Bool->(List gJ)->Int->Int->Int->(List gQ)->Option (adF.den⊕aef.den)
 |0,_,_,_,_,_,_=>a7
 |n+1,d,e,f,g,i,j=>UF (Ob n) (fun l m o p q s=>a6 (.inl ((l,()),((),()),((m,o,p,q,()),s,())))) (fun u=>a6 (.inr ((u,()),((),()),()))) d e f g i j
def aCC (n:Nat) (v:ac2.den):=bo (Ob n) v
noncomputable def anu:dD:=fP acs ac2 adF aef (.exit 0) (aCC bT) 6
def rD (f:List gJ) (g:Int) (i:List gQ) (j l:Int):Option taN:=bJ (mf f g i j l [110]) fun d=>bJ (Ob bT d.2.1 d.1.1 d.1.2.1 d.1.2.2.2.1 d.1.2.2.2.2.1 d.1.2.2.1) fun m=>dR m (fun e=>a6 ((e.2.2.1.1,(e.2.2.1.2.1,(e.2.2.2.1,(e.2.2.1.2.2.1,(e.2.2.1.2.2.2.1,()))))),(e.1.1,()))) (fun o=>a7)
def Gi:fZ:=⟨117,AA,[],[.bool],fun x y=>rD x.1 x.2.1 x.2.2.1 x.2.2.2.1 x.2.2.2.2.1⟩
noncomputable def ai3:Env:=gY prog tt [] [(156,2,acs)] [(156,2,anu)] [] [(106,Aq)]
def aoX {d:Type} (a:ac2.den->Option d) (b:adF.den->Option d) (c:aef.den->Option d) (v:ac2.den):Option d:=bo (UF (bm a) (bm b) (fun e=>c ((e,()),((),()),()))) v
theorem aDm:dX ai3 156 atU anu:=mF (aoX) (h2:=by intros;simp only[aoX,bm,bo,UF,dm,dn,bI,di,dw])
theorem aHA:dO ai3 156 aGr:=pI [atU] (aD (fM (aDm)) aN)
theorem aqt:fK ai3:=eB aN [156] (aD ⟨f156,aGr,by kernel_rfl,by kernel_rfl,aHA⟩ aN) (hx:=(aD lZ aN))
theorem tu:dQ prog 156 Gi:=sB aqt
def kW:fJ:=⟨[0,2,6,7],[],[],[],[],[]⟩
def Bl (g:List gJ) (d:Int) (f:List gQ) (e i:Int):Option wF:=cond (bY 18 18) (cond (bY d d) (cond (bY e e) (cond (eu (bU f [(18,(d,(0,(e,()))))]) 32) (cond (bY 18 18) (cond (bY d d) (cond (bY e e) (cond ((bY 18 18)&&((bY d d)&&((bY 0 0)&&((bY e e)&&true)))) (cond (gy (bU f [(18,(d,(0,(e,()))))]) (bK f)) (cond (pK (dI (bK f)) (bU f [(18,(d,(0,(e,()))))])) (a6 ((g,(d,((iR (bU f [(18,(d,(0,(e,()))))]) (dI (bK f)) ((dN (bU f [(18,(d,(0,(e,()))))]) (0,(0,(0,(0,())))) (dI (bK f))).1,((dN (bU f [(18,(d,(0,(e,()))))]) (0,(0,(0,(0,())))) (dI (bK f))).2.1,(d,((dN (bU f [(18,(d,(0,(e,()))))]) (0,(0,(0,(0,())))) (dI (bK f))).2.2.2.1,()))))),(e,(i,()))))),())) a7) a7) a7) a7) a7) a7) a7) a7) a7) a7
def Ri:fZ:=⟨117,AA,[],[],fun x y=>Bl x.1 x.2.1 x.2.2.1 x.2.2.2.1 x.2.2.2.2.1⟩
theorem vH:dQ prog 237 Ri:=qB [(237,600000,EX),(67,600003,kW)] aN
def Wj (d:bV):Option vJ:=cond (!(gp d [])) (bJ (V4 d 0) fun e=>a6 ((bY e.1 (bK d)),()))<|some (false,())
def aFQ:Sum:=⟨[.str],YI,fun x=>Wj x.1⟩
theorem Pz:dU prog 89 aFQ:=qA f89 [] (sE Q3 aN)
def amO (f:List gJ) (g:Int) (i:List gQ) (j l:Int):Option taN:=bJ (Bi f g i j l 0) fun e=>cond (bY e.2.1 120) (bJ (Bi e.1.1 e.1.2.1 e.1.2.2.1 e.1.2.2.2.1 e.1.2.2.2.2.1 1) fun d=>cond (bY d.2.1 40) (cond (iF d.1.2.2.2.2.1 200) (cond (gy d.1.1 d.1.2.1) (bJ (Wj (ed d.1.1 (0,([],(0,(0,())))) d.1.2.1).2.1) fun m=>a6 ((d.1.1,(d.1.2.1,(d.1.2.2.1,(d.1.2.2.2.1,(d.1.2.2.2.2.1,()))))),(m.1,()))) a7)<|some ((d.1.1,(d.1.2.1,(d.1.2.2.1,(d.1.2.2.2.1,(d.1.2.2.2.2.1,()))))),(false,())))<|some ((d.1.1,(d.1.2.1,(d.1.2.2.1,(d.1.2.2.2.1,(d.1.2.2.2.2.1,()))))),(false,())))<|some ((e.1.1,(e.1.2.1,(e.1.2.2.1,(e.1.2.2.2.1,(e.1.2.2.2.2.1,()))))),(false,()))
def azZ:fZ:=⟨117,AA,[],[.bool],fun x y=>amO x.1 x.2.1 x.2.2.1 x.2.2.2.1 x.2.2.2.2.1⟩
theorem as8:dQ prog 264 azZ:=qB [] (sE Pz aN) (sF vG aN)
def aCd:fJ:=⟨[1,2],[],[],[],[],[]⟩
def GV (i:List gJ) (d:Int) (f:List gQ) (e j g:Int):Option wF:=cond (bY g g) (cond (bY d d) (cond (bY e e) (cond (eu (bU f [(g,(d,(0,(e,()))))]) 32) (cond (bY g g) (cond (bY d d) (cond (bY e e) (cond ((bY g g)&&((bY d d)&&((bY 0 0)&&((bY e e)&&true)))) (cond (gy (bU f [(g,(d,(0,(e,()))))]) (bK f)) (cond (pK (dI (bK f)) (bU f [(g,(d,(0,(e,()))))])) (a6 ((i,((cO .i64 d 1),((iR (bU f [(g,(d,(0,(e,()))))]) (dI (bK f)) ((dN (bU f [(g,(d,(0,(e,()))))]) (0,(0,(0,(0,())))) (dI (bK f))).1,((dN (bU f [(g,(d,(0,(e,()))))]) (0,(0,(0,(0,())))) (dI (bK f))).2.1,((cO .i64 d 1),((dN (bU f [(g,(d,(0,(e,()))))]) (0,(0,(0,(0,())))) (dI (bK f))).2.2.2.1,()))))),(e,(j,()))))),())) a7) a7) a7) a7) a7) a7) a7) a7) a7) a7
def afq:fZ:=⟨117,AA,[dA],[],fun x y=>GV x.1 x.2.1 x.2.2.1 x.2.2.2.1 x.2.2.2.2.1 y.1⟩
theorem JQ:dQ prog 109 afq:=qB [(109,600001,aCd),(67,600003,kW)] aN
def RI (d:List gJ) (e:Int) (f:List gQ) (g i:Int):Option taN:=cond (iF e (bK d)) (cond (gy d e) (a6 ((d,(e,(f,(g,(i,()))))),((bY (ed d (0,([],(0,(0,())))) e).1 6),()))) a7)<|some ((d,(e,(f,(g,(i,()))))),(false,()))
def afx:fZ:=⟨117,AA,[],[.bool],fun x y=>RI x.1 x.2.1 x.2.2.1 x.2.2.2.1 x.2.2.2.2.1⟩
theorem JW:dQ prog 282 afx:=qB [] aN
def RH (f:List gJ) (g:Int) (i:List gQ) (j l:Int):Option wF:=bJ (RI f g i j l) fun d=>cond d.2.1 (bJ (GV d.1.1 d.1.2.1 d.1.2.2.1 d.1.2.2.2.1 d.1.2.2.2.2.1 7) fun e=>a6 ((e.1.1,(e.1.2.1,(e.1.2.2.1,(e.1.2.2.2.1,(e.1.2.2.2.2.1,()))))),()))<|bJ (Bl d.1.1 d.1.2.1 d.1.2.2.1 d.1.2.2.2.1 d.1.2.2.2.2.1) fun e=>a6 ((e.1.1,(e.1.2.1,(e.1.2.2.1,(e.1.2.2.2.1,(e.1.2.2.2.2.1,()))))),())
def afw:fZ:=⟨117,AA,[],[],fun x y=>RH x.1 x.2.1 x.2.2.1 x.2.2.2.1 x.2.2.2.2.1⟩
theorem JV:dQ prog 280 afw:=qB [] aN (sF JQ (sF vH (sF JW aN)))
def am8:fJ:=⟨[1],[],[],[],[],[]⟩
def DZ (i:List gJ) (j:Int) (l:List gQ) (m o:Int):Option taN:=bJ (agD i j l m o) fun d=>cond (!d.2.1) (a6 ((d.1.1,(d.1.2.1,(d.1.2.2.1,(d.1.2.2.2.1,(d.1.2.2.2.2.1,()))))),(false,())))<|cond (bY 8 8) (cond (bY d.1.2.1 d.1.2.1) (cond (bY d.1.2.2.2.1 d.1.2.2.2.1) (cond (eu (bU d.1.2.2.1 [(8,(d.1.2.1,(0,(d.1.2.2.2.1,()))))]) 32) (cond (bY 8 8) (cond (bY d.1.2.1 d.1.2.1) (cond (bY d.1.2.2.2.1 d.1.2.2.2.1) (cond ((bY 8 8)&&((bY d.1.2.1 d.1.2.1)&&((bY 0 0)&&((bY d.1.2.2.2.1 d.1.2.2.2.1)&&true)))) (bJ (mf d.1.1 d.1.2.1 (bU d.1.2.2.1 [(8,(d.1.2.1,(0,(d.1.2.2.2.1,()))))]) (bK d.1.2.2.1) d.1.2.2.2.2.1 [35]) fun f=>bJ (mf f.1.1 f.1.2.1 f.1.2.2.1 f.1.2.2.2.1 f.1.2.2.2.2.1 [60]) fun g=>bJ (RH g.1.1 g.1.2.1 g.1.2.2.1 g.1.2.2.2.1 g.1.2.2.2.2.1) fun e=>cond (gy e.1.2.2.1 (bK d.1.2.2.1)) (cond (pK (dI (bK d.1.2.2.1)) e.1.2.2.1) (a6 ((e.1.1,(e.1.2.1,((iR e.1.2.2.1 (dI (bK d.1.2.2.1)) ((dN e.1.2.2.1 (0,(0,(0,(0,())))) (dI (bK d.1.2.2.1))).1,((dN e.1.2.2.1 (0,(0,(0,(0,())))) (dI (bK d.1.2.2.1))).2.1,(e.1.2.1,((dN e.1.2.2.1 (0,(0,(0,(0,())))) (dI (bK d.1.2.2.1))).2.2.2.1,()))))),(d.1.2.2.2.1,(e.1.2.2.2.2.1,()))))),(true,()))) a7) a7) a7) a7) a7) a7) a7) a7) a7) a7
def alJ:fZ:=⟨117,AA,[],[.bool],fun x y=>DZ x.1 x.2.1 x.2.2.1 x.2.2.2.1 x.2.2.2.2.1⟩
theorem aa4:dQ prog 279 alJ:=qB [(279,600003,am8),(67,600003,kW)] aN (sF lZ (sF aaW (sF JV aN)))
def V6 (d:bV):Option (bV×bV×Bool×Unit):=bJ (V4 d 0) fun e=>cond (bY e.1 0) (a6 ([],([],(false,()))))<|cond (bY e.1 (bK d)) (a6 ([],([],(false,()))))<|cond (gy d e.1) (cond (!(bY (cu d e.1) 61)) (a6 ([],([],(false,()))))<|cond (eY (bK d) 0 e.1) (cond (eY (bK d) (cO .i64 e.1 1) (bK d)) (a6 ((sub d 0 e.1),((sub d (cO .i64 e.1 1) (bK d)),(true,())))) a7) a7) a7
def azD:Sum:=⟨[.str],[(.str,false),(.str,false),(.bool,false)],fun x=>V6 x.1⟩
theorem aaO:dU prog 144 azD:=qA f144 [] (sE Q3 aN)
def amQ (d:bV):Option vJ:=bJ (V6 d) fun e=>a6 (e.2.2.1,())
def az1:Sum:=⟨[.str],YI,fun x=>amQ x.1⟩
theorem atb:dU prog 283 az1:=qA f283 [] (sE aaO aN)
noncomputable def aGv:Code:=(Tryz.f267.body).getD .skip
noncomputable def aul:Code:=cA (cA (cB (cB (cA (aGv)))))
def aw3:fJ:=⟨[0,2,100003],[],[],[],[],[]⟩
def adn:SQ:=⟨us [cz,.u,cf] 28,dy,ef⟩
def adX:SQ:=⟨us [] 31,dy,ef⟩
def aex:SQ:=⟨us [] 31,dy,[]⟩
def JJ {i:Type} (j:Bool->(List gJ)->Int->Int->Int->(List gQ)->Option i) (m:(List gJ)->Int->Int->Int->(List gQ)->Option i) (v:Option i) (l:Bool) (o:List gJ) (p q s:Int) (u:List gQ):Option i:=bJ (DZ o p u q s) fun e=>cond e.2.1 (j l e.1.1 e.1.2.1 e.1.2.2.2.1 e.1.2.2.2.2.1 e.1.2.2.1)<|bJ (RI e.1.1 e.1.2.1 e.1.2.2.1 e.1.2.2.2.1 e.1.2.2.2.2.1) fun d=>cond (!d.2.1) (m d.1.1 d.1.2.1 d.1.2.2.2.1 d.1.2.2.2.2.1 d.1.2.2.1)<|cond (!l) (cond (gy d.1.1 d.1.2.1) (bJ (amQ (ed d.1.1 (0,([],(0,(0,())))) d.1.2.1).2.1) fun g=>cond g.1 (bJ (GV d.1.1 d.1.2.1 d.1.2.2.1 d.1.2.2.2.1 d.1.2.2.2.2.1 6) fun f=>j l f.1.1 f.1.2.1 f.1.2.2.2.1 f.1.2.2.2.2.1 f.1.2.2.1)<|bJ (GV d.1.1 d.1.2.1 d.1.2.2.1 d.1.2.2.2.1 d.1.2.2.2.2.1 7) fun f=>j true f.1.1 f.1.2.1 f.1.2.2.2.1 f.1.2.2.2.2.1 f.1.2.2.1) a7)<|bJ (GV d.1.1 d.1.2.1 d.1.2.2.1 d.1.2.2.2.1 d.1.2.2.2.2.1 7) fun g=>j true g.1.1 g.1.2.1 g.1.2.2.2.1 g.1.2.2.2.2.1 g.1.2.2.1
def vT:Nat->Bool->(List gJ)->Int->Int->Int->(List gQ)->Option (adX.den⊕aex.den)
 |0,_,_,_,_,_,_=>a7
 |n+1,d,e,f,g,i,j=>JJ (vT n) (fun l m o p q=>a6 (.inl ((),((),()),((l,m,o,p,()),q,())))) (a6 (.inr ((),((),()),()))) d e f g i j
def aCV (n:Nat) (v:adn.den):=bo (vT n) v
noncomputable def anO:dD:=fP aw3 adn adX aex (.exit 0) (aCV bT) 6
def Wh (e:List gJ) (f:Int) (g:List gQ) (i j:Int):Option wF:=bJ (vT bT false e f i j g) fun l=>dR l (fun d=>a6 ((d.2.2.1.1,(d.2.2.1.2.1,(d.2.2.2.1,(d.2.2.1.2.2.1,(d.2.2.1.2.2.2.1,()))))),())) (fun m=>a7)
def az0:fZ:=⟨117,AA,[],[],fun x y=>Wh x.1 x.2.1 x.2.2.1 x.2.2.2.1 x.2.2.2.2.1⟩
noncomputable def ajj:Env:=gY prog tt [(283,az1)] [(267,3,aw3)] [(267,3,anO)] [] [(109,afq),(279,alJ),(282,afx)]
def apg {d:Type} (a:adn.den->Option d) (b:adX.den->Option d) (c:aex.den->Option d) (v:adn.den):Option d:=bo (JJ (bm a) (bp b) (c ((),((),()),()))) v
theorem aDF:dX ajj 267 aul anO:=mF (apg) (h2:=by intros;simp only[apg,bm,bp,bo,JJ,dm,dn,bI,di,dw])
theorem aHV:dO ajj 267 aGv:=pI [aul] (aD (fM (aDF)) aN)
theorem aqU:fK ajj:=eB (aD atb aN) [267] (aD ⟨Tryz.f267,aGv,by kernel_rfl,by kernel_rfl,aHV⟩ aN) (hx:=(aD JQ (aD aa4 (aD JW aN))))
theorem as9:dQ prog 267 az0:=sB aqU
def uF (f:List gJ) (g:Int) (i:List gQ) (j l:Int) (m:bV):Option wF:=bJ (mf f g i j l m) fun d=>cond (!d.2.1) (bJ (Bl d.1.1 d.1.2.1 d.1.2.2.1 d.1.2.2.2.1 d.1.2.2.2.2.1) fun e=>a6 ((e.1.1,(e.1.2.1,(e.1.2.2.1,(e.1.2.2.2.1,(e.1.2.2.2.2.1,()))))),()))<|some ((d.1.1,(d.1.2.1,(d.1.2.2.1,(d.1.2.2.2.1,(d.1.2.2.2.2.1,()))))),())
def Iz:fZ:=⟨117,AA,[.str],[],fun x y=>uF x.1 x.2.1 x.2.2.1 x.2.2.2.1 x.2.2.2.2.1 y.1⟩
theorem vI:dQ prog 281 Iz:=qB [] aN (sF lZ (sF vH aN))
structure fH where
 q108:(List gJ)->Int->(List gQ)->Int->Int->Option wF
 q155:(List gJ)->Int->(List gQ)->Int->Int->Option wF
 q205:(List gJ)->Int->(List gQ)->Int->Int->Option wF
 q239:(List gJ)->Int->(List gQ)->Int->Int->Option wF
 q266:(List gJ)->Int->(List gQ)->Int->Int->Option wF
 q263:(List gJ)->Int->(List gQ)->Int->Int->Option wF
 q285:(List gJ)->Int->(List gQ)->Int->Int->Option wF
 q272:(List gJ)->Int->(List gQ)->Int->Int->Option wF
 q273:(List gJ)->Int->(List gQ)->Int->Int->Option wF
 q274:(List gJ)->Int->(List gQ)->Int->Int->Option wF
 q275:(List gJ)->Int->(List gQ)->Int->Int->Option wF
 q276:(List gJ)->Int->(List gQ)->Int->Int->Option wF
 q277:(List gJ)->Int->(List gQ)->Int->Int->Option wF
 q287:(List gJ)->Int->(List gQ)->Int->Int->Option wF
 q286:(List gJ)->Int->(List gQ)->Int->Int->Option wF
def afp (q:fH):fZ:=⟨117,AA,[],[],fun x y=>q.q108 x.1 x.2.1 x.2.2.1 x.2.2.2.1 x.2.2.2.2.1⟩
def apw (q:fH):fZ:=⟨117,AA,[],[],fun x y=>q.q155 x.1 x.2.1 x.2.2.1 x.2.2.2.1 x.2.2.2.2.1⟩
def apy (q:fH):fZ:=⟨117,AA,[],[],fun x y=>q.q205 x.1 x.2.1 x.2.2.1 x.2.2.2.1 x.2.2.2.2.1⟩
def apB (q:fH):fZ:=⟨117,AA,[],[],fun x y=>q.q239 x.1 x.2.1 x.2.2.1 x.2.2.2.1 x.2.2.2.2.1⟩
def apE (q:fH):fZ:=⟨117,AA,[],[],fun x y=>q.q266 x.1 x.2.1 x.2.2.1 x.2.2.2.1 x.2.2.2.2.1⟩
def afv (q:fH):fZ:=⟨117,AA,[],[],fun x y=>q.q263 x.1 x.2.1 x.2.2.1 x.2.2.2.1 x.2.2.2.2.1⟩
def JX (q:fH):fZ:=⟨117,AA,[],[],fun x y=>q.q285 x.1 x.2.1 x.2.2.1 x.2.2.2.1 x.2.2.2.2.1⟩
def apF (q:fH):fZ:=⟨117,AA,[],[],fun x y=>q.q272 x.1 x.2.1 x.2.2.1 x.2.2.2.1 x.2.2.2.2.1⟩
def apG (q:fH):fZ:=⟨117,AA,[],[],fun x y=>q.q273 x.1 x.2.1 x.2.2.1 x.2.2.2.1 x.2.2.2.2.1⟩
def apH (q:fH):fZ:=⟨117,AA,[],[],fun x y=>q.q274 x.1 x.2.1 x.2.2.1 x.2.2.2.1 x.2.2.2.2.1⟩
def apI (q:fH):fZ:=⟨117,AA,[],[],fun x y=>q.q275 x.1 x.2.1 x.2.2.1 x.2.2.2.1 x.2.2.2.2.1⟩
def apJ (q:fH):fZ:=⟨117,AA,[],[],fun x y=>q.q276 x.1 x.2.1 x.2.2.1 x.2.2.2.1 x.2.2.2.2.1⟩
def apK (q:fH):fZ:=⟨117,AA,[],[],fun x y=>q.q277 x.1 x.2.1 x.2.2.1 x.2.2.2.1 x.2.2.2.2.1⟩
def apL (q:fH):fZ:=⟨117,AA,[],[],fun x y=>q.q287 x.1 x.2.1 x.2.2.1 x.2.2.2.1 x.2.2.2.2.1⟩
def afy (q:fH):fZ:=⟨117,AA,[],[],fun x y=>q.q286 x.1 x.2.1 x.2.2.1 x.2.2.2.1 x.2.2.2.2.1⟩
noncomputable def aGn:Code:=(f108.body).getD .skip
noncomputable def atH:Code:=cA (cA (cB (cA (aGn))))
def awE:fJ:=⟨[0,100000],[],[],[],[],[]⟩
def acR:SQ:=⟨us b8 15,dy,ef⟩
def adx:SQ:=⟨us [] 16,dy,ef⟩
def ad7:SQ:=⟨us [] 16,dy,[]⟩
def O3 (q:fH) {m:Type} (p o:(List gJ)->Int->Int->Int->(List gQ)->Option m) (v:Option m) (s:List gJ) (i j u:Int) (l:List gQ):Option m:=cond (bY 3 3) (cond (bY i i) (cond (bY j j) (cond (eu (bU l [(3,(i,(0,(j,()))))]) 32) (cond (bY 3 3) (cond (bY i i) (cond (bY j j) (cond ((bY 3 3)&&((bY i i)&&((bY 0 0)&&((bY j j)&&true)))) (bJ (q.q155 s i (bU l [(3,(i,(0,(j,()))))]) (bK l) u) fun g=>cond (gy g.1.2.2.1 (bK l)) (cond (pK (dI (bK l)) g.1.2.2.1) (bJ (mf g.1.1 g.1.2.1 (iR g.1.2.2.1 (dI (bK l)) ((dN g.1.2.2.1 (0,(0,(0,(0,())))) (dI (bK l))).1,((dN g.1.2.2.1 (0,(0,(0,(0,())))) (dI (bK l))).2.1,(g.1.2.1,((dN g.1.2.2.1 (0,(0,(0,(0,())))) (dI (bK l))).2.2.2.1,()))))) j g.1.2.2.2.2.1 [59,38]) fun f=>cond f.2.1 (bJ (rD f.1.1 f.1.2.1 f.1.2.2.1 f.1.2.2.2.1 f.1.2.2.2.2.1) fun e=>bJ (Kt e.1.1 e.1.2.1 e.1.2.2.1 e.1.2.2.2.1 e.1.2.2.2.2.1) fun d=>cond (!d.2.1) (o d.1.1 d.1.2.1 d.1.2.2.2.1 d.1.2.2.2.2.1 d.1.2.2.1)<|p d.1.1 d.1.2.1 d.1.2.2.2.1 d.1.2.2.2.2.1 d.1.2.2.1)<|bJ (rD f.1.1 f.1.2.1 f.1.2.2.1 f.1.2.2.2.1 f.1.2.2.2.2.1) fun e=>cond (!e.2.1) (o e.1.1 e.1.2.1 e.1.2.2.2.1 e.1.2.2.2.2.1 e.1.2.2.1)<|bJ (Kt e.1.1 e.1.2.1 e.1.2.2.1 e.1.2.2.2.1 e.1.2.2.2.2.1) fun d=>cond (!d.2.1) (o d.1.1 d.1.2.1 d.1.2.2.2.1 d.1.2.2.2.2.1 d.1.2.2.1)<|p d.1.1 d.1.2.1 d.1.2.2.2.1 d.1.2.2.2.2.1 d.1.2.2.1) a7) a7) a7) a7) a7) a7) a7) a7) a7) a7
def vP (q:fH):Nat->(List gJ)->Int->Int->Int->(List gQ)->Option (adx.den⊕ad7.den)
 |0,_,_,_,_,_=>a7
 |n+1,d,e,f,g,i=>O3 q (vP q n) (fun j l m o p=>a6 (.inl ((),((),()),((j,l,m,o,()),p,())))) (a6 (.inr ((),((),()),()))) d e f g i
def aCr (q:fH) (n:Nat) (v:acR.den):=bq (vP q n) v
noncomputable def ani (q:fH):dD:=fP awE acR adx ad7 (.exit 0) (aCr q bT) 6
def agh (q:fH) (e:List gJ) (f:Int) (g:List gQ) (i j:Int):Option wF:=bJ (vP q bT e f i j g) fun l=>dR l (fun d=>a6 ((d.2.2.1.1,(d.2.2.1.2.1,(d.2.2.2.1,(d.2.2.1.2.2.1,(d.2.2.1.2.2.2.1,()))))),())) (fun m=>a7)
noncomputable def aiV (q:fH):Env:=gY prog tt [] [(108,0,awE),(108,600000,EX),(67,600003,kW)] [(108,0,ani q)] [] [(106,Aq),(107,QW),(155,apw q),(156,Gi)]
def aoM (q:fH) {d:Type} (a:acR.den->Option d) (b:adx.den->Option d) (c:ad7.den->Option d) (v:acR.den):Option d:=bq (O3 q (bp a) (bp b) (c ((),((),()),()))) v
theorem aDb (q:fH):dX (aiV q) 108 atH (ani q):=mF (aoM q) (h2:=by intros;simp only[aoM,bp,bq,O3,dm,dn,bI,di,dw])
theorem aHp (q:fH):dO (aiV q) 108 aGn:=pI [atH] (aD (fM (aDb q)) aN)
abbrev J4 (q:fH):Prop:=dQ prog 108 (afp q)/\dQ prog 155 (apw q)/\dQ prog 205 (apy q)/\dQ prog 239 (apB q)/\dQ prog 266 (apE q)/\dQ prog 263 (afv q)/\dQ prog 285 (JX q)/\dQ prog 272 (apF q)/\dQ prog 273 (apG q)/\dQ prog 274 (apH q)/\dQ prog 275 (apI q)/\dQ prog 276 (apJ q)/\dQ prog 277 (apK q)/\dQ prog 287 (apL q)/\dQ prog 286 (afy q)
theorem aqf (q:fH) (H:J4 q):fK (aiV q):=eB aN [108] (aD ⟨f108,aGn,by kernel_rfl,by kernel_rfl,aHp q⟩ aN) (hx:=(aD lZ (aD Ez (aD H.2.1 (aD tu aN)))))
noncomputable def aGq:Code:=(Tryz.f155.body).getD .skip
noncomputable def atT:Code:=cA (cA (cB (aGq)))
def awM:fJ:=⟨[0,100001],[],[],[],[],[]⟩
def ac1:SQ:=⟨us b8 9,dy,ef⟩
def adE:SQ:=⟨us [] 10,dy,ef⟩
def aee:SQ:=⟨us [] 10,dy,[]⟩
def O4 (q:fH) {g:Type} (i j:(List gJ)->Int->Int->Int->(List gQ)->Option g) (u:Option g) (l:List gJ) (m o p:Int) (s:List gQ):Option g:=bJ (mf l m s o p [97,111]) fun d=>cond d.2.1 (bJ (rD d.1.1 d.1.2.1 d.1.2.2.1 d.1.2.2.2.1 d.1.2.2.2.2.1) fun e=>bJ (q.q205 e.1.1 e.1.2.1 e.1.2.2.1 e.1.2.2.2.1 e.1.2.2.2.2.1) fun f=>i f.1.1 f.1.2.1 f.1.2.2.2.1 f.1.2.2.2.2.1 f.1.2.2.1)<|j d.1.1 d.1.2.1 d.1.2.2.2.1 d.1.2.2.2.2.1 d.1.2.2.1
def E5 (q:fH):Nat->(List gJ)->Int->Int->Int->(List gQ)->Option (adE.den⊕aee.den)
 |0,_,_,_,_,_=>a7
 |n+1,d,e,f,g,i=>O4 q (E5 q n) (fun j l m o p=>a6 (.inl ((),((),()),((j,l,m,o,()),p,())))) (a6 (.inr ((),((),()),()))) d e f g i
def aCB (q:fH) (n:Nat) (v:ac1.den):=bq (E5 q n) v
noncomputable def ant (q:fH):dD:=fP awM ac1 adE aee (.exit 0) (aCB q bT) 6
def agi (q:fH) (f:List gJ) (g:Int) (i:List gQ) (j l:Int):Option wF:=bJ (q.q205 f g i j l) fun d=>bJ (E5 q bT d.1.1 d.1.2.1 d.1.2.2.2.1 d.1.2.2.2.2.1 d.1.2.2.1) fun m=>dR m (fun e=>a6 ((e.2.2.1.1,(e.2.2.1.2.1,(e.2.2.2.1,(e.2.2.1.2.2.1,(e.2.2.1.2.2.2.1,()))))),())) (fun o=>a7)
noncomputable def ai2 (q:fH):Env:=gY prog tt [] [(155,1,awM)] [(155,1,ant q)] [] [(106,Aq),(156,Gi),(205,apy q)]
def aoW (q:fH) {d:Type} (a:ac1.den->Option d) (b:adE.den->Option d) (c:aee.den->Option d) (v:ac1.den):Option d:=bq (O4 q (bp a) (bp b) (c ((),((),()),()))) v
theorem aDl (q:fH):dX (ai2 q) 155 atT (ant q):=mF (aoW q) (h2:=by intros;simp only[aoW,bp,bq,O4,dm,dn,bI,di,dw])
theorem aHz (q:fH):dO (ai2 q) 155 aGq:=pI [atT] (aD (fM (aDl q)) aN)
theorem aqs (q:fH) (H:J4 q):fK (ai2 q):=eB aN [155] (aD ⟨Tryz.f155,aGq,by kernel_rfl,by kernel_rfl,aHz q⟩ aN) (hx:=(aD lZ (aD tu (aD H.2.2.1 aN))))
noncomputable def Vq:Code:=(f238.body).getD .skip
noncomputable def VC:Code:=cA (cA (cB (cB (Vq))))
def WC:fJ:=⟨[0,239000002],[],[],[],[],[]⟩
def FB:SQ:=⟨us [cX] 10,cj,[cy,bR,cF]⟩
def H9:SQ:=⟨us [] 11,cj,[cy,bR,cF]⟩
def Ih:SQ:=⟨us [] 11,cj,[]⟩
def xB (q:fH) {g:Type} (l m:Int->Int->(List gJ)->Int->Int->Int->(List gQ)->Option g) (x:Int->Int->Option g) (i j:Int) (o:List gJ) (p s u:Int) (v:List gQ):Option g:=bJ (mf o p v s u [124]) fun d=>cond d.2.1 (bJ (rD d.1.1 d.1.2.1 d.1.2.2.1 d.1.2.2.2.1 d.1.2.2.2.2.1) fun e=>bJ (q.q239 e.1.1 e.1.2.1 e.1.2.2.1 e.1.2.2.2.1 e.1.2.2.2.2.1) fun f=>l i j f.1.1 f.1.2.1 f.1.2.2.2.1 f.1.2.2.2.2.1 f.1.2.2.1)<|m i j d.1.1 d.1.2.1 d.1.2.2.2.1 d.1.2.2.2.2.1 d.1.2.2.1
def qi (q:fH):Nat->Int->Int->(List gJ)->Int->Int->Int->(List gQ)->Option (H9.den⊕Ih.den)
 |0,_,_,_,_,_,_,_=>a7
 |n+1,d,e,f,g,i,j,l=>xB q (qi q n) (fun m o p s u v x=>a6 (.inl ((),((m,o,()),(),(),()),((),(p,s,u,v,()),x,())))) (fun y z=>a6 (.inr ((),((y,z,()),(),(),()),()))) d e f g i j l
def ahj (q:fH) (n:Nat) (v:FB.den):=qi q n v.2.1.1.1 v.2.1.1.2.1 v.2.2.2.1.1 v.2.2.2.1.2.1 v.2.2.2.1.2.2.1 v.2.2.2.1.2.2.2.1 v.2.2.2.2.1
noncomputable def SB (q:fH):dD:=fP WC FB H9 Ih (.exit 0) (ahj q bT) 6
def VT (q:fH) (i:List gJ) (j:Int) (l:List gQ) (m o:Int):Option wF:=bJ (Kt i j l m o) fun d=>cond (!d.2.1) (bJ (Bl d.1.1 d.1.2.1 d.1.2.2.1 d.1.2.2.2.1 d.1.2.2.2.2.1) fun f=>a6 ((f.1.1,(f.1.2.1,(f.1.2.2.1,(f.1.2.2.2.1,(f.1.2.2.2.2.1,()))))),()))<|cond (bY 4 4) (cond (bY d.1.2.1 d.1.2.1) (cond (bY d.1.2.2.2.1 d.1.2.2.2.1) (cond (eu (bU d.1.2.2.1 [(4,(d.1.2.1,(0,(d.1.2.2.2.1,()))))]) 32) (cond (bY 4 4) (cond (bY d.1.2.1 d.1.2.1) (cond (bY d.1.2.2.2.1 d.1.2.2.2.1) (cond ((bY 4 4)&&((bY d.1.2.1 d.1.2.1)&&((bY 0 0)&&((bY d.1.2.2.2.1 d.1.2.2.2.1)&&true)))) (bJ (mf d.1.1 d.1.2.1 (bU d.1.2.2.1 [(4,(d.1.2.1,(0,(d.1.2.2.2.1,()))))]) (bK d.1.2.2.1) d.1.2.2.2.2.1 [33]) fun f=>bJ (q.q239 f.1.1 f.1.2.1 f.1.2.2.1 f.1.2.2.2.1 f.1.2.2.2.2.1) fun g=>bJ (qi q bT (bK d.1.2.2.1) d.1.2.2.2.1 g.1.1 g.1.2.1 g.1.2.2.2.1 g.1.2.2.2.2.1 g.1.2.2.1) fun p=>dR p (fun e=>cond (gy e.2.2.2.2.1 e.2.1.1.1) (cond (pK (dI e.2.1.1.1) e.2.2.2.2.1) (a6 ((e.2.2.2.1.1,(e.2.2.2.1.2.1,((iR e.2.2.2.2.1 (dI e.2.1.1.1) ((dN e.2.2.2.2.1 (0,(0,(0,(0,())))) (dI e.2.1.1.1)).1,((dN e.2.2.2.2.1 (0,(0,(0,(0,())))) (dI e.2.1.1.1)).2.1,(e.2.2.2.1.2.1,((dN e.2.2.2.2.1 (0,(0,(0,(0,())))) (dI e.2.1.1.1)).2.2.2.1,()))))),(e.2.1.1.2.1,(e.2.2.2.1.2.2.2.1,()))))),())) a7) a7) (fun b4=>a7)) a7) a7) a7) a7) a7) a7) a7) a7
noncomputable def aja (q:fH):Env:=gY prog tt [] [(238,2,WC),(205,600003,am8),(67,600003,kW)] [(238,2,SB q)] [] [(106,Aq),(107,QW),(156,Gi),(237,Ri),(239,apB q)]
def Tj (q:fH) {d:Type} (a:FB.den->Option d) (b:H9.den->Option d) (c:Ih.den->Option d) (v:FB.den):Option d:=xB q (fun e f g i j l m=>a ((),((e,f,()),(),(),()),((),(g,i,j,l,()),m,()))) (fun o p s u x y z=>b ((),((o,p,()),(),(),()),((),(s,u,x,y,()),z,()))) (fun A B=>c ((),((A,B,()),(),(),()),())) v.2.1.1.1 v.2.1.1.2.1 v.2.2.2.1.1 v.2.2.2.1.2.1 v.2.2.2.1.2.2.1 v.2.2.2.1.2.2.2.1 v.2.2.2.2.1
theorem ahD (q:fH):dX (aja q) 238 VC (SB q):=mF (Tj q) (h2:=by intros;simp only[Tj,xB,dm,dn,bI,di,dw])
theorem aj1 (q:fH):dO (aja q) 238 Vq:=pI [VC] (aD (fM (ahD q)) aN)
theorem aqD (q:fH) (H:J4 q):fK (aja q):=eB aN [238] (aD ⟨f238,Vq,by kernel_rfl,by kernel_rfl,aj1 q⟩ aN) (hx:=(aD lZ (aD Ez (aD tu (aD vH (aD H.2.2.2.1 aN))))))
def Sl:fJ:=⟨[0,1,2],[],[],[],[],[]⟩
def agj (q:fH) (i:List gJ) (j:Int) (l:List gQ) (m o:Int):Option wF:=bJ (ZU i j l m o) fun g=>cond g.2.1 (bJ (q.q263 g.1.1 g.1.2.1 g.1.2.2.1 g.1.2.2.2.1 g.1.2.2.2.2.1) fun e=>a6 ((e.1.1,(e.1.2.1,(e.1.2.2.1,(e.1.2.2.2.1,(e.1.2.2.2.2.1,()))))),()))<|bJ (amO g.1.1 g.1.2.1 g.1.2.2.1 g.1.2.2.2.1 g.1.2.2.2.2.1) fun e=>cond e.2.1 (cond (bY 16 16) (cond (bY e.1.2.1 e.1.2.1) (cond (bY e.1.2.2.2.1 e.1.2.2.2.1) (cond (eu (bU e.1.2.2.1 [(16,(e.1.2.1,(0,(e.1.2.2.2.1,()))))]) 32) (cond (bY 16 16) (cond (bY e.1.2.1 e.1.2.1) (cond (bY e.1.2.2.2.1 e.1.2.2.2.1) (cond ((bY 16 16)&&((bY e.1.2.1 e.1.2.1)&&((bY 0 0)&&((bY e.1.2.2.2.1 e.1.2.2.2.1)&&true)))) (bJ (q.q266 e.1.1 e.1.2.1 (bU e.1.2.2.1 [(16,(e.1.2.1,(0,(e.1.2.2.2.1,()))))]) (bK e.1.2.2.1) (cO .i64 e.1.2.2.2.2.1 1)) fun d=>cond (gy d.1.2.2.1 (bK e.1.2.2.1)) (cond (pK (dI (bK e.1.2.2.1)) d.1.2.2.1) (a6 ((d.1.1,(d.1.2.1,((iR d.1.2.2.1 (dI (bK e.1.2.2.1)) ((dN d.1.2.2.1 (0,(0,(0,(0,())))) (dI (bK e.1.2.2.1))).1,((dN d.1.2.2.1 (0,(0,(0,(0,())))) (dI (bK e.1.2.2.1))).2.1,(d.1.2.1,((dN d.1.2.2.1 (0,(0,(0,(0,())))) (dI (bK e.1.2.2.1))).2.2.2.1,()))))),(e.1.2.2.2.1,((eP .i64 d.1.2.2.2.2.1 1),()))))),())) a7) a7) a7) a7) a7) a7) a7) a7) a7) a7)<|bJ (ags e.1.1 e.1.2.1 e.1.2.2.1 e.1.2.2.2.1 e.1.2.2.2.2.1) fun d=>cond d.2.1 (cond (bY 5 5) (cond (bY d.1.2.1 d.1.2.1) (cond (bY d.1.2.2.2.1 d.1.2.2.2.1) (cond (eu (bU d.1.2.2.1 [(5,(d.1.2.1,(0,(d.1.2.2.2.1,()))))]) 32) (cond (bY 5 5) (cond (bY d.1.2.1 d.1.2.1) (cond (bY d.1.2.2.2.1 d.1.2.2.2.1) (cond ((bY 5 5)&&((bY d.1.2.1 d.1.2.1)&&((bY 0 0)&&((bY d.1.2.2.2.1 d.1.2.2.2.1)&&true)))) (bJ (Wh d.1.1 d.1.2.1 (bU d.1.2.2.1 [(5,(d.1.2.1,(0,(d.1.2.2.2.1,()))))]) (bK d.1.2.2.1) d.1.2.2.2.2.1) fun f=>cond (gy f.1.2.2.1 (bK d.1.2.2.1)) (cond (pK (dI (bK d.1.2.2.1)) f.1.2.2.1) (a6 ((f.1.1,(f.1.2.1,((iR f.1.2.2.1 (dI (bK d.1.2.2.1)) ((dN f.1.2.2.1 (0,(0,(0,(0,())))) (dI (bK d.1.2.2.1))).1,((dN f.1.2.2.1 (0,(0,(0,(0,())))) (dI (bK d.1.2.2.1))).2.1,(f.1.2.1,((dN f.1.2.2.1 (0,(0,(0,(0,())))) (dI (bK d.1.2.2.1))).2.2.2.1,()))))),(d.1.2.2.2.1,(f.1.2.2.2.2.1,()))))),())) a7) a7) a7) a7) a7) a7) a7) a7) a7) a7)<|bJ (Bl d.1.1 d.1.2.1 d.1.2.2.1 d.1.2.2.2.1 d.1.2.2.2.2.1) fun f=>a6 ((f.1.1,(f.1.2.1,(f.1.2.2.1,(f.1.2.2.2.1,(f.1.2.2.2.2.1,()))))),())
noncomputable def aGK (q:fH):Env:=gY prog tt [] [(239,600004,EX),(239,600006,EX),(67,600003,kW),(265,600001,Sl)] [] [] [(154,azF),(204,alG),(237,Ri),(263,afv q),(264,azZ),(266,apE q),(267,az0)]
theorem aqK (q:fH) (H:J4 q):fK (aGK q):=eB aN [] aN (hx:=(aD aaP (aD Q8 (aD vH (aD H.2.2.2.2.2.1 (aD as8 (aD H.2.2.2.2.1 (aD as9 aN))))))))
def avX (q:fH) (l:List gJ) (m:Int) (o:List gQ) (p s:Int):Option wF:=bJ (RH l m o p s) fun f=>bJ (mf f.1.1 f.1.2.1 f.1.2.2.1 f.1.2.2.2.1 f.1.2.2.2.2.1 [40]) fun g=>bJ (uF g.1.1 g.1.2.1 g.1.2.2.1 g.1.2.2.2.1 g.1.2.2.2.2.1 [41]) fun i=>bJ (rD i.1.1 i.1.2.1 i.1.2.2.1 i.1.2.2.2.1 i.1.2.2.2.2.1) fun j=>bJ (ZU j.1.1 j.1.2.1 j.1.2.2.1 j.1.2.2.2.1 j.1.2.2.2.2.1) fun d=>cond d.2.1 (bJ (q.q263 d.1.1 d.1.2.1 d.1.2.2.1 d.1.2.2.2.1 d.1.2.2.2.2.1) fun e=>a6 ((e.1.1,(e.1.2.1,(e.1.2.2.1,(e.1.2.2.2.1,(e.1.2.2.2.2.1,()))))),()))<|bJ (Bl d.1.1 d.1.2.1 d.1.2.2.1 d.1.2.2.2.1 d.1.2.2.2.2.1) fun e=>a6 ((e.1.1,(e.1.2.1,(e.1.2.2.1,(e.1.2.2.2.1,(e.1.2.2.2.2.1,()))))),())
noncomputable def aGN (q:fH):Env:=gY prog tt [] [] [] [] [(106,Aq),(156,Gi),(204,alG),(237,Ri),(263,afv q),(280,afw),(281,Iz)]
theorem aqT (q:fH) (H:J4 q):fK (aGN q):=eB aN [] aN (hx:=(aD lZ (aD tu (aD Q8 (aD vH (aD H.2.2.2.2.2.1 (aD JV (aD vI aN))))))))
noncomputable def Vr:Code:=(f278.body).getD .skip
noncomputable def pX:Code:=cA (cA (cB (cB (Vr))))
def sK:fJ:=⟨[0,279000002],[],[],[],[],[]⟩
def axd:fJ:=⟨[1,2,3],[],[],[],[],[]⟩
def FC:SQ:=⟨fw,bN,eS⟩
def Ia:SQ:=⟨ey,bN,eS⟩
def Ii:SQ:=⟨ey,bN,[]⟩
def xC (q:fH) {e:Type} (o p:Int->Int->Int->Int->Int->Int->(List gQ)->(List gJ)->Int->Int->Int->Option e) (z:Int->Int->Int->Int->Int->Int->Option e) (f g i j l m:Int) (s:List gQ) (u:List gJ) (v x y:Int):Option e:=bJ (DZ u v s x y) fun d=>cond d.2.1 (o f g i j l m d.1.2.2.1 d.1.1 d.1.2.1 d.1.2.2.2.1 d.1.2.2.2.2.1)<|p f g i j l m d.1.2.2.1 d.1.1 d.1.2.1 d.1.2.2.2.1 d.1.2.2.2.2.1
def qj (q:fH):Nat->Int->Int->Int->Int->Int->Int->(List gQ)->(List gJ)->Int->Int->Int->Option (Ia.den⊕Ii.den)
 |0,_,_,_,_,_,_,_,_,_,_,_=>a7
 |n+1,d,e,f,g,i,j,l,m,o,p,s=>xC q (qj q n) (fun u v x y z A B D E G I=>a6 (.inl ((),((u,v,()),(x,y,()),(z,A,()),(),()),((),(),B,(D,E,G,I,()),())))) (fun J K L M N O=>a6 (.inr ((),((J,K,()),(L,M,()),(N,O,()),(),()),()))) d e f g i j l m o p s
def ahk (q:fH) (n:Nat) (v:FC.den):=bw (qj q n) v
noncomputable def Hf (q:fH):dD:=fP sK FC Ia Ii (.exit 0) (ahk q bT) 6
def yx:SQ:=⟨fw,bN,eT⟩
def CV:SQ:=⟨ey,bN,eT⟩
def Dc:SQ:=⟨ey,bN,[]⟩
def rJ (q:fH) {e:Type} (o p:Int->Int->Int->Int->Int->Int->(List gQ)->(List gJ)->Int->Int->Int->Option e) (z:Int->Int->Int->Int->Int->Int->Option e) (f g i j l m:Int) (s:List gQ) (u:List gJ) (v x y:Int):Option e:=bJ (DZ u v s x y) fun d=>cond d.2.1 (o f g i j l m d.1.2.2.1 d.1.1 d.1.2.1 d.1.2.2.2.1 d.1.2.2.2.2.1)<|p f g i j l m d.1.2.2.1 d.1.1 d.1.2.1 d.1.2.2.2.1 d.1.2.2.2.2.1
def mV (q:fH):Nat->Int->Int->Int->Int->Int->Int->(List gQ)->(List gJ)->Int->Int->Int->Option (CV.den⊕Dc.den)
 |0,_,_,_,_,_,_,_,_,_,_,_=>a7
 |n+1,d,e,f,g,i,j,l,m,o,p,s=>rJ q (mV q n) (fun u v x y z A B D E G I=>a6 (.inl ((),((u,v,()),(x,y,()),(z,A,()),(),()),((),(),B,(D,E,G,I,()),())))) (fun J K L M N O=>a6 (.inr ((),((J,K,()),(L,M,()),(N,O,()),(),()),()))) d e f g i j l m o p s
def YX (q:fH) (n:Nat) (v:yx.den):=bw (mV q n) v
noncomputable def CE (q:fH):dD:=fP sK yx CV Dc (.exit 0) (YX q bT) 12
def yz:SQ:=⟨fw,bN,eV⟩
def CW:SQ:=⟨ey,bN,eV⟩
def Df:SQ:=⟨ey,bN,[]⟩
def rM (q:fH) {e:Type} (o p:Int->Int->Int->Int->Int->Int->(List gQ)->(List gJ)->Int->Int->Int->Option e) (z:Int->Int->Int->Int->Int->Int->Option e) (f g i j l m:Int) (s:List gQ) (u:List gJ) (v x y:Int):Option e:=bJ (DZ u v s x y) fun d=>cond d.2.1 (o f g i j l m d.1.2.2.1 d.1.1 d.1.2.1 d.1.2.2.2.1 d.1.2.2.2.2.1)<|p f g i j l m d.1.2.2.1 d.1.1 d.1.2.1 d.1.2.2.2.1 d.1.2.2.2.2.1
def mW (q:fH):Nat->Int->Int->Int->Int->Int->Int->(List gQ)->(List gJ)->Int->Int->Int->Option (CW.den⊕Df.den)
 |0,_,_,_,_,_,_,_,_,_,_,_=>a7
 |n+1,d,e,f,g,i,j,l,m,o,p,s=>rM q (mW q n) (fun u v x y z A B D E G I=>a6 (.inl ((),((u,v,()),(x,y,()),(z,A,()),(),()),((),(),B,(D,E,G,I,()),())))) (fun J K L M N O=>a6 (.inr ((),((J,K,()),(L,M,()),(N,O,()),(),()),()))) d e f g i j l m o p s
def YY (q:fH) (n:Nat) (v:yz.den):=bw (mW q n) v
noncomputable def CG (q:fH):dD:=fP sK yz CW Df (.exit 0) (YY q bT) 18
def yA:SQ:=⟨fw,bN,eW⟩
def CX:SQ:=⟨ey,bN,eW⟩
def Dh:SQ:=⟨ey,bN,[]⟩
def rO (q:fH) {e:Type} (o p:Int->Int->Int->Int->Int->Int->(List gQ)->(List gJ)->Int->Int->Int->Option e) (z:Int->Int->Int->Int->Int->Int->Option e) (f g i j l m:Int) (s:List gQ) (u:List gJ) (v x y:Int):Option e:=bJ (DZ u v s x y) fun d=>cond d.2.1 (o f g i j l m d.1.2.2.1 d.1.1 d.1.2.1 d.1.2.2.2.1 d.1.2.2.2.2.1)<|p f g i j l m d.1.2.2.1 d.1.1 d.1.2.1 d.1.2.2.2.1 d.1.2.2.2.2.1
def mX (q:fH):Nat->Int->Int->Int->Int->Int->Int->(List gQ)->(List gJ)->Int->Int->Int->Option (CX.den⊕Dh.den)
 |0,_,_,_,_,_,_,_,_,_,_,_=>a7
 |n+1,d,e,f,g,i,j,l,m,o,p,s=>rO q (mX q n) (fun u v x y z A B D E G I=>a6 (.inl ((),((u,v,()),(x,y,()),(z,A,()),(),()),((),(),B,(D,E,G,I,()),())))) (fun J K L M N O=>a6 (.inr ((),((J,K,()),(L,M,()),(N,O,()),(),()),()))) d e f g i j l m o p s
def YZ (q:fH) (n:Nat) (v:yA.den):=bw (mX q n) v
noncomputable def CJ (q:fH):dD:=fP sK yA CX Dh (.exit 0) (YZ q bT) 24
def yB:SQ:=⟨fw,bN,eZ⟩
def CY:SQ:=⟨ey,bN,eZ⟩
def Di:SQ:=⟨ey,bN,[]⟩
def rP (q:fH) {e:Type} (o p:Int->Int->Int->Int->Int->Int->(List gQ)->(List gJ)->Int->Int->Int->Option e) (z:Int->Int->Int->Int->Int->Int->Option e) (f g i j l m:Int) (s:List gQ) (u:List gJ) (v x y:Int):Option e:=bJ (DZ u v s x y) fun d=>cond d.2.1 (o f g i j l m d.1.2.2.1 d.1.1 d.1.2.1 d.1.2.2.2.1 d.1.2.2.2.2.1)<|p f g i j l m d.1.2.2.1 d.1.1 d.1.2.1 d.1.2.2.2.1 d.1.2.2.2.2.1
def mY (q:fH):Nat->Int->Int->Int->Int->Int->Int->(List gQ)->(List gJ)->Int->Int->Int->Option (CY.den⊕Di.den)
 |0,_,_,_,_,_,_,_,_,_,_,_=>a7
 |n+1,d,e,f,g,i,j,l,m,o,p,s=>rP q (mY q n) (fun u v x y z A B D E G I=>a6 (.inl ((),((u,v,()),(x,y,()),(z,A,()),(),()),((),(),B,(D,E,G,I,()),())))) (fun J K L M N O=>a6 (.inr ((),((J,K,()),(L,M,()),(N,O,()),(),()),()))) d e f g i j l m o p s
def Y0 (q:fH) (n:Nat) (v:yB.den):=bw (mY q n) v
noncomputable def CO (q:fH):dD:=fP sK yB CY Di (.exit 0) (Y0 q bT) 30
def yC:SQ:=⟨fw,bN,fa⟩
def CZ:SQ:=⟨ey,bN,fa⟩
def Dj:SQ:=⟨ey,bN,[]⟩
def rQ (q:fH) {e:Type} (o p:Int->Int->Int->Int->Int->Int->(List gQ)->(List gJ)->Int->Int->Int->Option e) (z:Int->Int->Int->Int->Int->Int->Option e) (f g i j l m:Int) (s:List gQ) (u:List gJ) (v x y:Int):Option e:=bJ (DZ u v s x y) fun d=>cond d.2.1 (o f g i j l m d.1.2.2.1 d.1.1 d.1.2.1 d.1.2.2.2.1 d.1.2.2.2.2.1)<|p f g i j l m d.1.2.2.1 d.1.1 d.1.2.1 d.1.2.2.2.1 d.1.2.2.2.2.1
def mZ (q:fH):Nat->Int->Int->Int->Int->Int->Int->(List gQ)->(List gJ)->Int->Int->Int->Option (CZ.den⊕Dj.den)
 |0,_,_,_,_,_,_,_,_,_,_,_=>a7
 |n+1,d,e,f,g,i,j,l,m,o,p,s=>rQ q (mZ q n) (fun u v x y z A B D E G I=>a6 (.inl ((),((u,v,()),(x,y,()),(z,A,()),(),()),((),(),B,(D,E,G,I,()),())))) (fun J K L M N O=>a6 (.inr ((),((J,K,()),(L,M,()),(N,O,()),(),()),()))) d e f g i j l m o p s
def Y1 (q:fH) (n:Nat) (v:yC.den):=bw (mZ q n) v
noncomputable def CP (q:fH):dD:=fP sK yC CZ Dj (.exit 0) (Y1 q bT) 36
def DW (q:fH) (i:List gJ) (j:Int) (l:List gQ) (m o:Int):Option wF:=bJ (cond (bY 9 9) (cond ((((bY 9 9)&&true)&&(((pO o8 l l)&&(((pO tyD i i)&&((bY j j)&&((bY m m)&&((bY o o)&&true))))&&true))&&true))&&true) (a6 ()) (a7)) (a7)) fun p=>bJ (Bi i j l m o 0) fun d=>cond (bY d.2.1 40) (cond (bY 10 10) (cond (bY d.1.2.1 d.1.2.1) (cond (bY d.1.2.2.2.1 d.1.2.2.2.1) (cond (eu (bU d.1.2.2.1 [(10,(d.1.2.1,(0,(d.1.2.2.2.1,()))))]) 32) (cond (bY 10 10) (cond (bY d.1.2.1 d.1.2.1) (cond (bY d.1.2.2.2.1 d.1.2.2.2.1) (cond ((bY 10 10)&&((bY d.1.2.1 d.1.2.1)&&((bY 0 0)&&((bY d.1.2.2.2.1 d.1.2.2.2.1)&&true)))) (bJ (q.q273 d.1.1 (cO .i64 d.1.2.1 1) (bU d.1.2.2.1 [(10,(d.1.2.1,(0,(d.1.2.2.2.1,()))))]) (bK d.1.2.2.1) (cO .i64 d.1.2.2.2.2.1 1)) fun f=>bJ (qj q bT (bK d.1.2.2.1) d.1.2.2.2.1 10 10 10 10 f.1.2.2.1 f.1.1 f.1.2.1 f.1.2.2.2.1 f.1.2.2.2.2.1) fun g=>dR g (fun e=>cond (gy e.2.2.2.2.1 e.2.1.1.1) (cond (pK (dI e.2.1.1.1) e.2.2.2.2.1) (a6 ((e.2.2.2.2.2.1.1,(e.2.2.2.2.2.1.2.1,((iR e.2.2.2.2.1 (dI e.2.1.1.1) ((dN e.2.2.2.2.1 (0,(0,(0,(0,())))) (dI e.2.1.1.1)).1,((dN e.2.2.2.2.1 (0,(0,(0,(0,())))) (dI e.2.1.1.1)).2.1,(e.2.2.2.2.2.1.2.1,((dN e.2.2.2.2.1 (0,(0,(0,(0,())))) (dI e.2.1.1.1)).2.2.2.1,()))))),(e.2.1.1.2.1,((eP .i64 e.2.2.2.2.2.1.2.2.2.1 1),()))))),())) a7) a7) (fun b4=>a7)) a7) a7) a7) a7) a7) a7) a7) a7)<|cond (bY d.2.1 105) (cond (bY 11 11) (cond (bY d.1.2.1 d.1.2.1) (cond (bY d.1.2.2.2.1 d.1.2.2.2.1) (cond (eu (bU d.1.2.2.1 [(11,(d.1.2.1,(0,(d.1.2.2.2.1,()))))]) 32) (cond (bY 11 11) (cond (bY d.1.2.1 d.1.2.1) (cond (bY d.1.2.2.2.1 d.1.2.2.2.1) (cond ((bY 11 11)&&((bY d.1.2.1 d.1.2.1)&&((bY 0 0)&&((bY d.1.2.2.2.1 d.1.2.2.2.1)&&true)))) (bJ (q.q274 d.1.1 (cO .i64 d.1.2.1 1) (bU d.1.2.2.1 [(11,(d.1.2.1,(0,(d.1.2.2.2.1,()))))]) (bK d.1.2.2.1) (cO .i64 d.1.2.2.2.2.1 1)) fun f=>bJ (mV q bT (bK d.1.2.2.1) d.1.2.2.2.1 11 11 11 11 f.1.2.2.1 f.1.1 f.1.2.1 f.1.2.2.2.1 f.1.2.2.2.2.1) fun g=>dR g (fun e=>cond (gy e.2.2.2.2.1 e.2.1.1.1) (cond (pK (dI e.2.1.1.1) e.2.2.2.2.1) (a6 ((e.2.2.2.2.2.1.1,(e.2.2.2.2.2.1.2.1,((iR e.2.2.2.2.1 (dI e.2.1.1.1) ((dN e.2.2.2.2.1 (0,(0,(0,(0,())))) (dI e.2.1.1.1)).1,((dN e.2.2.2.2.1 (0,(0,(0,(0,())))) (dI e.2.1.1.1)).2.1,(e.2.2.2.2.2.1.2.1,((dN e.2.2.2.2.1 (0,(0,(0,(0,())))) (dI e.2.1.1.1)).2.2.2.1,()))))),(e.2.1.1.2.1,((eP .i64 e.2.2.2.2.2.1.2.2.2.1 1),()))))),())) a7) a7) (fun b4=>a7)) a7) a7) a7) a7) a7) a7) a7) a7)<|cond (bY d.2.1 119) (cond (bY 12 12) (cond (bY d.1.2.1 d.1.2.1) (cond (bY d.1.2.2.2.1 d.1.2.2.2.1) (cond (eu (bU d.1.2.2.1 [(12,(d.1.2.1,(0,(d.1.2.2.2.1,()))))]) 32) (cond (bY 12 12) (cond (bY d.1.2.1 d.1.2.1) (cond (bY d.1.2.2.2.1 d.1.2.2.2.1) (cond ((bY 12 12)&&((bY d.1.2.1 d.1.2.1)&&((bY 0 0)&&((bY d.1.2.2.2.1 d.1.2.2.2.1)&&true)))) (bJ (q.q275 d.1.1 (cO .i64 d.1.2.1 1) (bU d.1.2.2.1 [(12,(d.1.2.1,(0,(d.1.2.2.2.1,()))))]) (bK d.1.2.2.1) (cO .i64 d.1.2.2.2.2.1 1)) fun f=>bJ (mW q bT (bK d.1.2.2.1) d.1.2.2.2.1 12 12 12 12 f.1.2.2.1 f.1.1 f.1.2.1 f.1.2.2.2.1 f.1.2.2.2.2.1) fun g=>dR g (fun e=>cond (gy e.2.2.2.2.1 e.2.1.1.1) (cond (pK (dI e.2.1.1.1) e.2.2.2.2.1) (a6 ((e.2.2.2.2.2.1.1,(e.2.2.2.2.2.1.2.1,((iR e.2.2.2.2.1 (dI e.2.1.1.1) ((dN e.2.2.2.2.1 (0,(0,(0,(0,())))) (dI e.2.1.1.1)).1,((dN e.2.2.2.2.1 (0,(0,(0,(0,())))) (dI e.2.1.1.1)).2.1,(e.2.2.2.2.2.1.2.1,((dN e.2.2.2.2.1 (0,(0,(0,(0,())))) (dI e.2.1.1.1)).2.2.2.1,()))))),(e.2.1.1.2.1,((eP .i64 e.2.2.2.2.2.1.2.2.2.1 1),()))))),())) a7) a7) (fun b4=>a7)) a7) a7) a7) a7) a7) a7) a7) a7)<|cond (bY d.2.1 114) (cond (bY 13 13) (cond (bY d.1.2.1 d.1.2.1) (cond (bY d.1.2.2.2.1 d.1.2.2.2.1) (cond (eu (bU d.1.2.2.1 [(13,(d.1.2.1,(0,(d.1.2.2.2.1,()))))]) 32) (cond (bY 13 13) (cond (bY d.1.2.1 d.1.2.1) (cond (bY d.1.2.2.2.1 d.1.2.2.2.1) (cond ((bY 13 13)&&((bY d.1.2.1 d.1.2.1)&&((bY 0 0)&&((bY d.1.2.2.2.1 d.1.2.2.2.1)&&true)))) (bJ (q.q276 d.1.1 (cO .i64 d.1.2.1 1) (bU d.1.2.2.1 [(13,(d.1.2.1,(0,(d.1.2.2.2.1,()))))]) (bK d.1.2.2.1) (cO .i64 d.1.2.2.2.2.1 1)) fun f=>bJ (mX q bT (bK d.1.2.2.1) d.1.2.2.2.1 13 13 13 13 f.1.2.2.1 f.1.1 f.1.2.1 f.1.2.2.2.1 f.1.2.2.2.2.1) fun g=>dR g (fun e=>cond (gy e.2.2.2.2.1 e.2.1.1.1) (cond (pK (dI e.2.1.1.1) e.2.2.2.2.1) (a6 ((e.2.2.2.2.2.1.1,(e.2.2.2.2.2.1.2.1,((iR e.2.2.2.2.1 (dI e.2.1.1.1) ((dN e.2.2.2.2.1 (0,(0,(0,(0,())))) (dI e.2.1.1.1)).1,((dN e.2.2.2.2.1 (0,(0,(0,(0,())))) (dI e.2.1.1.1)).2.1,(e.2.2.2.2.2.1.2.1,((dN e.2.2.2.2.1 (0,(0,(0,(0,())))) (dI e.2.1.1.1)).2.2.2.1,()))))),(e.2.1.1.2.1,((eP .i64 e.2.2.2.2.2.1.2.2.2.1 1),()))))),())) a7) a7) (fun b4=>a7)) a7) a7) a7) a7) a7) a7) a7) a7)<|cond (bY d.2.1 99) (cond (bY 14 14) (cond (bY d.1.2.1 d.1.2.1) (cond (bY d.1.2.2.2.1 d.1.2.2.2.1) (cond (eu (bU d.1.2.2.1 [(14,(d.1.2.1,(0,(d.1.2.2.2.1,()))))]) 32) (cond (bY 14 14) (cond (bY d.1.2.1 d.1.2.1) (cond (bY d.1.2.2.2.1 d.1.2.2.2.1) (cond ((bY 14 14)&&((bY d.1.2.1 d.1.2.1)&&((bY 0 0)&&((bY d.1.2.2.2.1 d.1.2.2.2.1)&&true)))) (bJ (q.q277 d.1.1 (cO .i64 d.1.2.1 1) (bU d.1.2.2.1 [(14,(d.1.2.1,(0,(d.1.2.2.2.1,()))))]) (bK d.1.2.2.1) (cO .i64 d.1.2.2.2.2.1 1)) fun f=>bJ (mY q bT (bK d.1.2.2.1) d.1.2.2.2.1 14 14 14 14 f.1.2.2.1 f.1.1 f.1.2.1 f.1.2.2.2.1 f.1.2.2.2.2.1) fun g=>dR g (fun e=>cond (gy e.2.2.2.2.1 e.2.1.1.1) (cond (pK (dI e.2.1.1.1) e.2.2.2.2.1) (a6 ((e.2.2.2.2.2.1.1,(e.2.2.2.2.2.1.2.1,((iR e.2.2.2.2.1 (dI e.2.1.1.1) ((dN e.2.2.2.2.1 (0,(0,(0,(0,())))) (dI e.2.1.1.1)).1,((dN e.2.2.2.2.1 (0,(0,(0,(0,())))) (dI e.2.1.1.1)).2.1,(e.2.2.2.2.2.1.2.1,((dN e.2.2.2.2.1 (0,(0,(0,(0,())))) (dI e.2.1.1.1)).2.2.2.1,()))))),(e.2.1.1.2.1,((eP .i64 e.2.2.2.2.2.1.2.2.2.1 1),()))))),())) a7) a7) (fun b4=>a7)) a7) a7) a7) a7) a7) a7) a7) a7)<|cond (bY 9 9) (cond (bY d.1.2.1 d.1.2.1) (cond (bY d.1.2.2.2.1 d.1.2.2.2.1) (cond (eu (bU d.1.2.2.1 [(9,(d.1.2.1,(0,(d.1.2.2.2.1,()))))]) 32) (cond (bY 9 9) (cond (bY d.1.2.1 d.1.2.1) (cond (bY d.1.2.2.2.1 d.1.2.2.2.1) (cond ((bY 9 9)&&((bY d.1.2.1 d.1.2.1)&&((bY 0 0)&&((bY d.1.2.2.2.1 d.1.2.2.2.1)&&true)))) (bJ (q.q272 d.1.1 (cO .i64 d.1.2.1 1) (bU d.1.2.2.1 [(9,(d.1.2.1,(0,(d.1.2.2.2.1,()))))]) (bK d.1.2.2.1) (cO .i64 d.1.2.2.2.2.1 1)) fun f=>bJ (mZ q bT (bK d.1.2.2.1) d.1.2.2.2.1 9 9 9 9 f.1.2.2.1 f.1.1 f.1.2.1 f.1.2.2.2.1 f.1.2.2.2.2.1) fun g=>dR g (fun e=>cond (gy e.2.2.2.2.1 e.2.1.1.1) (cond (pK (dI e.2.1.1.1) e.2.2.2.2.1) (a6 ((e.2.2.2.2.2.1.1,(e.2.2.2.2.2.1.2.1,((iR e.2.2.2.2.1 (dI e.2.1.1.1) ((dN e.2.2.2.2.1 (0,(0,(0,(0,())))) (dI e.2.1.1.1)).1,((dN e.2.2.2.2.1 (0,(0,(0,(0,())))) (dI e.2.1.1.1)).2.1,(e.2.2.2.2.2.1.2.1,((dN e.2.2.2.2.1 (0,(0,(0,(0,())))) (dI e.2.1.1.1)).2.2.2.1,()))))),(e.2.1.1.2.1,((eP .i64 e.2.2.2.2.2.1.2.2.2.1 1),()))))),())) a7) a7) (fun b4=>a7)) a7) a7) a7) a7) a7) a7) a7) a7
noncomputable def EM (q:fH):Env:=gY prog tt [] [(278,2,sK),(263,600013,axd),(265,600001,Sl),(67,600003,kW),(278,600001,zV)] [(278,2,kZ (Hf q) (kZ (CE q) (kZ (CG q) (kZ (CJ q) (kZ (CO q) ((CP q)))))))] [] [(153,alD),(272,apF q),(273,apG q),(274,apH q),(275,apI q),(276,apJ q),(277,apK q),(279,alJ)]
def Tm (q:fH) {d:Type} (a:FC.den->Option d) (b:Ia.den->Option d) (c:Ii.den->Option d) (v:FC.den):Option d:=bw (xC q (bs a) (bs b) (bv c)) v
theorem ahE (q:fH):dX (EM q) 278 pX (Hf q):=mF (Tm q) (h2:=by intros;simp only[Tm,bs,bv,bw,xC,dm,dn,bI,di,dw])
def KJ (q:fH) {d:Type} (a:yx.den->Option d) (b:CV.den->Option d) (c:Dc.den->Option d) (v:yx.den):Option d:=bw (rJ q (bs a) (bs b) (bv c)) v
theorem Y6 (q:fH):dX (EM q) 278 pX (CE q):=mF (KJ q) (h2:=by intros;simp only[KJ,bs,bv,bw,rJ,dm,dn,bI,di,dw])
def KL (q:fH) {d:Type} (a:yz.den->Option d) (b:CW.den->Option d) (c:Df.den->Option d) (v:yz.den):Option d:=bw (rM q (bs a) (bs b) (bv c)) v
theorem Y7 (q:fH):dX (EM q) 278 pX (CG q):=mF (KL q) (h2:=by intros;simp only[KL,bs,bv,bw,rM,dm,dn,bI,di,dw])
def KN (q:fH) {d:Type} (a:yA.den->Option d) (b:CX.den->Option d) (c:Dh.den->Option d) (v:yA.den):Option d:=bw (rO q (bs a) (bs b) (bv c)) v
theorem Y8 (q:fH):dX (EM q) 278 pX (CJ q):=mF (KN q) (h2:=by intros;simp only[KN,bs,bv,bw,rO,dm,dn,bI,di,dw])
def KO (q:fH) {d:Type} (a:yB.den->Option d) (b:CY.den->Option d) (c:Di.den->Option d) (v:yB.den):Option d:=bw (rP q (bs a) (bs b) (bv c)) v
theorem Y9 (q:fH):dX (EM q) 278 pX (CO q):=mF (KO q) (h2:=by intros;simp only[KO,bs,bv,bw,rP,dm,dn,bI,di,dw])
def KP (q:fH) {d:Type} (a:yC.den->Option d) (b:CZ.den->Option d) (c:Dj.den->Option d) (v:yC.den):Option d:=bw (rQ q (bs a) (bs b) (bv c)) v
theorem Za (q:fH):dX (EM q) 278 pX (CP q):=mF (KP q) (h2:=by intros;simp only[KP,bs,bv,bw,rQ,dm,dn,bI,di,dw])
theorem aj2 (q:fH):dO (EM q) 278 Vr:=pI [pX] (aD (fun L h=>by rw[show((EM q)).lp 278 (dK pX)=a6 (kZ (Hf q) (kZ (CE q) (kZ (CG q) (kZ (CJ q) (kZ (CO q) ((CP q))))))) by kernel_rfl]at h;cases h;exact uP (ahE q) (uP (Y6 q) (uP (Y7 q) (uP (Y8 q) (uP (Y9 q) ((Za q))))))) aN)
theorem aqS (q:fH) (H:J4 q):fK (EM q):=eB aN [278] (aD ⟨f278,Vr,by kernel_rfl,by kernel_rfl,aj2 q⟩ aN) (hx:=(aD vG (aD H.2.2.2.2.2.2.2.1 (aD H.2.2.2.2.2.2.2.2.1 (aD H.2.2.2.2.2.2.2.2.2.1 (aD H.2.2.2.2.2.2.2.2.2.2.1 (aD H.2.2.2.2.2.2.2.2.2.2.2.1 (aD H.2.2.2.2.2.2.2.2.2.2.2.2.1 (aD aa4 aN)))))))))
def av4 (q:fH) (g:List gJ) (i:Int) (j:List gQ) (l m:Int):Option wF:=bJ (rD g i j l m) fun f=>bJ (Kt f.1.1 f.1.2.1 f.1.2.2.1 f.1.2.2.2.1 f.1.2.2.2.2.1) fun d=>cond d.2.1 (cond (bY 2 2) (cond (bY d.1.2.1 d.1.2.1) (cond (bY d.1.2.2.2.1 d.1.2.2.2.1) (cond (eu (bU d.1.2.2.1 [(2,(d.1.2.1,(0,(d.1.2.2.2.1,()))))]) 32) (cond (bY 2 2) (cond (bY d.1.2.1 d.1.2.1) (cond (bY d.1.2.2.2.1 d.1.2.2.2.1) (cond ((bY 2 2)&&((bY d.1.2.1 d.1.2.1)&&((bY 0 0)&&((bY d.1.2.2.2.1 d.1.2.2.2.1)&&true)))) (bJ (q.q108 d.1.1 d.1.2.1 (bU d.1.2.2.1 [(2,(d.1.2.1,(0,(d.1.2.2.2.1,()))))]) (bK d.1.2.2.1) d.1.2.2.2.2.1) fun e=>cond (gy e.1.2.2.1 (bK d.1.2.2.1)) (cond (pK (dI (bK d.1.2.2.1)) e.1.2.2.1) (a6 ((e.1.1,(e.1.2.1,((iR e.1.2.2.1 (dI (bK d.1.2.2.1)) ((dN e.1.2.2.1 (0,(0,(0,(0,())))) (dI (bK d.1.2.2.1))).1,((dN e.1.2.2.1 (0,(0,(0,(0,())))) (dI (bK d.1.2.2.1))).2.1,(e.1.2.1,((dN e.1.2.2.1 (0,(0,(0,(0,())))) (dI (bK d.1.2.2.1))).2.2.2.1,()))))),(d.1.2.2.2.1,(e.1.2.2.2.2.1,()))))),())) a7) a7) a7) a7) a7) a7) a7) a7) a7) a7)<|bJ (Bl d.1.1 d.1.2.1 d.1.2.2.1 d.1.2.2.2.1 d.1.2.2.2.2.1) fun e=>a6 ((e.1.1,(e.1.2.1,(e.1.2.2.1,(e.1.2.2.2.1,(e.1.2.2.2.2.1,()))))),())
noncomputable def aGR (q:fH):Env:=gY prog tt [] [(285,600002,EX),(67,600003,kW)] [] [] [(107,QW),(108,afp q),(156,Gi),(237,Ri)]
theorem aq2 (q:fH) (H:J4 q):fK (aGR q):=eB aN [] aN (hx:=(aD Ez (aD H.1 (aD tu (aD vH aN)))))
def avY (q:fH) (f:List gJ) (g:Int) (i:List gQ) (j l:Int):Option wF:=bJ (q.q285 f g i j l) fun d=>bJ (uF d.1.1 d.1.2.1 d.1.2.2.1 d.1.2.2.2.1 d.1.2.2.2.2.1 [125]) fun e=>a6 ((e.1.1,(e.1.2.1,(e.1.2.2.1,(e.1.2.2.2.1,(e.1.2.2.2.2.1,()))))),())
noncomputable def aGO (q:fH):Env:=gY prog tt [] [] [] [] [(281,Iz),(285,JX q)]
theorem aqW (q:fH) (H:J4 q):fK (aGO q):=eB aN [] aN (hx:=(aD vI (aD H.2.2.2.2.2.2.1 aN)))
def avZ (q:fH) (f:List gJ) (g:Int) (i:List gQ) (j l:Int):Option wF:=bJ (q.q285 f g i j l) fun d=>bJ (uF d.1.1 d.1.2.1 d.1.2.2.1 d.1.2.2.2.1 d.1.2.2.2.2.1 [41]) fun e=>a6 ((e.1.1,(e.1.2.1,(e.1.2.2.1,(e.1.2.2.2.1,(e.1.2.2.2.2.1,()))))),())
noncomputable def aGP (q:fH):Env:=gY prog tt [] [] [] [] [(281,Iz),(285,JX q)]
theorem aqX (q:fH) (H:J4 q):fK (aGP q):=eB aN [] aN (hx:=(aD vI (aD H.2.2.2.2.2.2.1 aN)))
noncomputable def aGw:Code:=(f274.body).getD .skip
noncomputable def aun:Code:=cA (cA (cA (cB (cB (cB (aGw))))))
def aw4:fJ:=⟨[0,100003],[],[0],[],[],[]⟩
def adp:SQ:=⟨us b8 21,dy,ef⟩
def adZ:SQ:=⟨us b8 21,dy,ef⟩
def aez:SQ:=⟨us [] 22,dy,[]⟩
def UY (q:fH) {i:Type} (j l:(List gJ)->Int->Int->Int->(List gQ)->Option i) (v:Option i) (m:List gJ) (o p s:Int) (u:List gQ):Option i:=bJ (mf m o u p s [101]) fun d=>cond d.2.1 (bJ (q.q285 d.1.1 d.1.2.1 d.1.2.2.1 d.1.2.2.2.1 d.1.2.2.2.2.1) fun e=>bJ (uF e.1.1 e.1.2.1 e.1.2.2.1 e.1.2.2.2.1 e.1.2.2.2.2.1 [116]) fun f=>bJ (q.q285 f.1.1 f.1.2.1 f.1.2.2.1 f.1.2.2.2.1 f.1.2.2.2.2.1) fun g=>j g.1.1 g.1.2.1 g.1.2.2.2.1 g.1.2.2.2.2.1 g.1.2.2.1)<|l d.1.1 d.1.2.1 d.1.2.2.2.1 d.1.2.2.2.2.1 d.1.2.2.1
def Oj (q:fH):Nat->(List gJ)->Int->Int->Int->(List gQ)->Option (adZ.den⊕aez.den)
 |0,_,_,_,_,_=>a7
 |n+1,d,e,f,g,i=>UY q (Oj q n) (fun j l m o p=>a6 (.inl ((),((),()),((j,l,m,o,()),p,())))) (a6 (.inr ((),((),()),()))) d e f g i
def aCX (q:fH) (n:Nat) (v:adp.den):=bq (Oj q n) v
noncomputable def anQ (q:fH):dD:=fP aw4 adp adZ aez (.exit 0) (aCX q bT) 6
def av1 (q:fH) (m:List gJ) (o:Int) (p:List gQ) (s u:Int):Option wF:=bJ (q.q285 m o p s u) fun f=>bJ (uF f.1.1 f.1.2.1 f.1.2.2.1 f.1.2.2.2.1 f.1.2.2.2.2.1 [116]) fun g=>bJ (q.q285 g.1.1 g.1.2.1 g.1.2.2.1 g.1.2.2.2.1 g.1.2.2.2.2.1) fun i=>bJ (Oj q bT i.1.1 i.1.2.1 i.1.2.2.2.1 i.1.2.2.2.2.1 i.1.2.2.1) fun v=>dR v (fun j=>bJ (mf j.2.2.1.1 j.2.2.1.2.1 j.2.2.2.1 j.2.2.1.2.2.1 j.2.2.1.2.2.2.1 [108]) fun d=>cond d.2.1 (bJ (q.q285 d.1.1 d.1.2.1 d.1.2.2.1 d.1.2.2.2.1 d.1.2.2.2.2.1) fun e=>bJ (uF e.1.1 e.1.2.1 e.1.2.2.1 e.1.2.2.2.1 e.1.2.2.2.2.1 [102]) fun l=>a6 ((l.1.1,(l.1.2.1,(l.1.2.2.1,(l.1.2.2.2.1,(l.1.2.2.2.2.1,()))))),()))<|bJ (uF d.1.1 d.1.2.1 d.1.2.2.1 d.1.2.2.2.1 d.1.2.2.2.2.1 [102]) fun e=>a6 ((e.1.1,(e.1.2.1,(e.1.2.2.1,(e.1.2.2.2.1,(e.1.2.2.2.2.1,()))))),())) (fun b4=>a7)
noncomputable def ajl (q:fH):Env:=gY prog tt [] [(274,3,aw4)] [(274,3,anQ q)] [] [(106,Aq),(281,Iz),(285,JX q)]
def api (q:fH) {d:Type} (a:adp.den->Option d) (b:adZ.den->Option d) (c:aez.den->Option d) (v:adp.den):Option d:=bq (UY q (bp a) (bp b) (c ((),((),()),()))) v
theorem aDH (q:fH):dX (ajl q) 274 aun (anQ q):=mF (api q) (h2:=by intros;simp only[api,bp,bq,UY,dm,dn,bI,di,dw])
theorem aHX (q:fH):dO (ajl q) 274 aGw:=pI [aun] (aD (fM (aDH q)) aN)
theorem aqY (q:fH) (H:J4 q):fK (ajl q):=eB aN [274] (aD ⟨f274,aGw,by kernel_rfl,by kernel_rfl,aHX q⟩ aN) (hx:=(aD lZ (aD vI (aD H.2.2.2.2.2.2.1 aN))))
def aEL (q:fH) (f:List gJ) (g:Int) (i:List gQ) (j l:Int):Option wF:=bJ (q.q285 f g i j l) fun d=>bJ (q.q286 d.1.1 d.1.2.1 d.1.2.2.1 d.1.2.2.2.1 d.1.2.2.2.2.1) fun e=>a6 ((e.1.1,(e.1.2.1,(e.1.2.2.1,(e.1.2.2.2.1,(e.1.2.2.2.2.1,()))))),())
noncomputable def aGQ (q:fH):Env:=gY prog tt [] [] [] [] [(285,JX q),(286,afy q)]
theorem aqZ (q:fH) (H:J4 q):fK (aGQ q):=eB aN [] aN (hx:=(aD H.2.2.2.2.2.2.1 (aD H.2.2.2.2.2.2.2.2.2.2.2.2.2.2 aN)))
noncomputable def aGx:Code:=(Tryz.f276.body).getD .skip
noncomputable def auo:Code:=cA (cA (cA (cA (cB (cB (cB (cB (cA (cB (aGx))))))))))
def aw5:fJ:=⟨[0,100007],[],[0],[],[],[]⟩
def adq:SQ:=⟨us b8 47,dy,ef⟩
def ad1:SQ:=⟨us b8 47,dy,ef⟩
def aeA:SQ:=⟨us [] 48,dy,[]⟩
def UZ (q:fH) {f:Type} (g i:(List gJ)->Int->Int->Int->(List gQ)->Option f) (s:Option f) (j:List gJ) (l m o:Int) (p:List gQ):Option f:=bJ (RI j l p m o) fun d=>cond d.2.1 (bJ (GV d.1.1 d.1.2.1 d.1.2.2.1 d.1.2.2.2.1 d.1.2.2.2.2.1 7) fun e=>g e.1.1 e.1.2.1 e.1.2.2.2.1 e.1.2.2.2.2.1 e.1.2.2.1)<|i d.1.1 d.1.2.1 d.1.2.2.2.1 d.1.2.2.2.2.1 d.1.2.2.1
def Jn (q:fH):Nat->(List gJ)->Int->Int->Int->(List gQ)->Option (ad1.den⊕aeA.den)
 |0,_,_,_,_,_=>a7
 |n+1,d,e,f,g,i=>UZ q (Jn q n) (fun j l m o p=>a6 (.inl ((),((),()),((j,l,m,o,()),p,())))) (a6 (.inr ((),((),()),()))) d e f g i
def aCY (q:fH) (n:Nat) (v:adq.den):=bq (Jn q n) v
noncomputable def anR (q:fH):dD:=fP aw5 adq ad1 aeA (.exit 0) (aCY q bT) 6
def ND (q:fH) (d:taN):Option wF:=bJ (q.q286 d.1.1 d.1.2.1 d.1.2.2.1 d.1.2.2.2.1 d.1.2.2.2.2.1) fun e=>a6 ((e.1.1,(e.1.2.1,(e.1.2.2.1,(e.1.2.2.2.1,(e.1.2.2.2.2.1,()))))),())
def TM (j:wF) (q:fH):Option wF:=bJ (mf j.1.1 j.1.2.1 j.1.2.2.1 j.1.2.2.2.1 j.1.2.2.2.2.1 [59]) fun d=>cond d.2.1 (bJ (rD d.1.1 d.1.2.1 d.1.2.2.1 d.1.2.2.2.1 d.1.2.2.2.2.1) fun f=>ND q f)<|bJ (rD d.1.1 d.1.2.1 d.1.2.2.1 d.1.2.2.2.1 d.1.2.2.2.2.1) fun f=>bJ (mf f.1.1 f.1.2.1 f.1.2.2.1 f.1.2.2.2.1 f.1.2.2.2.2.1 [107]) fun g=>cond g.2.1 (bJ (Jn q bT g.1.1 g.1.2.1 g.1.2.2.2.1 g.1.2.2.2.2.1 g.1.2.2.1) fun p=>dR p (fun l=>bJ (mf l.2.2.1.1 l.2.2.1.2.1 l.2.2.2.1 l.2.2.1.2.2.1 l.2.2.1.2.2.2.1 [59]) fun i=>bJ (rD i.1.1 i.1.2.1 i.1.2.2.1 i.1.2.2.2.1 i.1.2.2.2.2.1) fun e=>cond (!e.2.1) (cond (!i.2.1) (bJ (Bl e.1.1 e.1.2.1 e.1.2.2.1 e.1.2.2.2.1 e.1.2.2.2.2.1) fun m=>bJ (q.q286 m.1.1 m.1.2.1 m.1.2.2.1 m.1.2.2.2.1 m.1.2.2.2.2.1) fun o=>a6 ((o.1.1,(o.1.2.1,(o.1.2.2.1,(o.1.2.2.2.1,(o.1.2.2.2.2.1,()))))),()))<|ND q e)<|ND q e) (fun s=>a7))<|ND q g
def av2 (q:fH) (g:List gJ) (i:Int) (j:List gQ) (l m:Int):Option wF:=bJ (RI g i j l m) fun d=>cond d.2.1 (cond (gy d.1.1 d.1.2.1) (bJ (Wj (ed d.1.1 (0,([],(0,(0,())))) d.1.2.1).2.1) fun e=>cond e.1 (bJ (GV d.1.1 d.1.2.1 d.1.2.2.1 d.1.2.2.2.1 d.1.2.2.2.2.1 7) fun f=>TM f q)<|bJ (Bl d.1.1 d.1.2.1 d.1.2.2.1 d.1.2.2.2.1 d.1.2.2.2.2.1) fun f=>TM f q) a7)<|bJ (Bl d.1.1 d.1.2.1 d.1.2.2.1 d.1.2.2.2.1 d.1.2.2.2.2.1) fun e=>TM e q
noncomputable def ajm (q:fH):Env:=gY prog tt [(89,aFQ)] [(276,7,aw5)] [(276,7,anR q)] [] [(106,Aq),(109,afq),(156,Gi),(237,Ri),(282,afx),(286,afy q)]
def apj (q:fH) {d:Type} (a:adq.den->Option d) (b:ad1.den->Option d) (c:aeA.den->Option d) (v:adq.den):Option d:=bq (UZ q (bp a) (bp b) (c ((),((),()),()))) v
theorem aDI (q:fH):dX (ajm q) 276 auo (anR q):=mF (apj q) (h2:=by intros;simp only[apj,bp,bq,UZ,dm,dn,bI,di,dw])
theorem aHY (q:fH):dO (ajm q) 276 aGx:=pI [auo] (aD (fM (aDI q)) aN)
theorem aq0 (q:fH) (H:J4 q):fK (ajm q):=eB (aD Pz aN) [276] (aD ⟨Tryz.f276,aGx,by kernel_rfl,by kernel_rfl,aHY q⟩ aN) (hx:=(aD lZ (aD JQ (aD tu (aD vH (aD JW (aD H.2.2.2.2.2.2.2.2.2.2.2.2.2.2 aN)))))))
noncomputable def aGy:Code:=(Tryz.f277.body).getD .skip
noncomputable def aup:Code:=cA (cA (cA (cB (cB (cB (cB (cB (cA (aGy)))))))))
def aw6:fJ:=⟨[0,100004],[],[0],[],[],[]⟩
def adr:SQ:=⟨us b8 31,dy,ef⟩
def ad2:SQ:=⟨us b8 31,dy,ef⟩
def aeB:SQ:=⟨us [] 32,dy,[]⟩
def U0 (q:fH) {m:Type} (o l:(List gJ)->Int->Int->Int->(List gQ)->Option m) (y:Option m) (p:List gJ) (s u v:Int) (x:List gQ):Option m:=bJ (ZQ p s x u v [40]) fun e=>cond e.2.1 (cond (bY 15 15) (cond (bY e.1.2.1 e.1.2.1) (cond (bY e.1.2.2.2.1 e.1.2.2.2.1) (cond (eu (bU e.1.2.2.1 [(15,(e.1.2.1,(0,(e.1.2.2.2.1,()))))]) 32) (cond (bY 15 15) (cond (bY e.1.2.1 e.1.2.1) (cond (bY e.1.2.2.2.1 e.1.2.2.2.1) (cond ((bY 15 15)&&((bY e.1.2.1 e.1.2.1)&&((bY 0 0)&&((bY e.1.2.2.2.1 e.1.2.2.2.1)&&true)))) (bJ (q.q287 e.1.1 e.1.2.1 (bU e.1.2.2.1 [(15,(e.1.2.1,(0,(e.1.2.2.2.1,()))))]) (bK e.1.2.2.1) e.1.2.2.2.2.1) fun f=>cond (gy f.1.2.2.1 (bK e.1.2.2.1)) (cond (pK (dI (bK e.1.2.2.1)) f.1.2.2.1) (bJ (mf f.1.1 f.1.2.1 (iR f.1.2.2.1 (dI (bK e.1.2.2.1)) ((dN f.1.2.2.1 (0,(0,(0,(0,())))) (dI (bK e.1.2.2.1))).1,((dN f.1.2.2.1 (0,(0,(0,(0,())))) (dI (bK e.1.2.2.1))).2.1,(f.1.2.1,((dN f.1.2.2.1 (0,(0,(0,(0,())))) (dI (bK e.1.2.2.1))).2.2.2.1,()))))) e.1.2.2.2.1 f.1.2.2.2.2.1 [121]) fun d=>cond (!d.2.1) (l d.1.1 d.1.2.1 d.1.2.2.2.1 d.1.2.2.2.2.1 d.1.2.2.1)<|bJ (rD d.1.1 d.1.2.1 d.1.2.2.1 d.1.2.2.2.1 d.1.2.2.2.2.1) fun g=>o g.1.1 g.1.2.1 g.1.2.2.2.1 g.1.2.2.2.2.1 g.1.2.2.1) a7) a7) a7) a7) a7) a7) a7) a7) a7) a7)<|bJ (RI e.1.1 e.1.2.1 e.1.2.2.1 e.1.2.2.2.1 e.1.2.2.2.2.1) fun f=>cond f.2.1 (bJ (Bi f.1.1 f.1.2.1 f.1.2.2.1 f.1.2.2.2.1 f.1.2.2.2.2.1 0) fun d=>cond (!(bY d.2.1 122)) (cond (bY 15 15) (cond (bY d.1.2.1 d.1.2.1) (cond (bY d.1.2.2.2.1 d.1.2.2.2.1) (cond (eu (bU d.1.2.2.1 [(15,(d.1.2.1,(0,(d.1.2.2.2.1,()))))]) 32) (cond (bY 15 15) (cond (bY d.1.2.1 d.1.2.1) (cond (bY d.1.2.2.2.1 d.1.2.2.2.1) (cond ((bY 15 15)&&((bY d.1.2.1 d.1.2.1)&&((bY 0 0)&&((bY d.1.2.2.2.1 d.1.2.2.2.1)&&true)))) (bJ (q.q287 d.1.1 d.1.2.1 (bU d.1.2.2.1 [(15,(d.1.2.1,(0,(d.1.2.2.2.1,()))))]) (bK d.1.2.2.1) d.1.2.2.2.2.1) fun g=>cond (gy g.1.2.2.1 (bK d.1.2.2.1)) (cond (pK (dI (bK d.1.2.2.1)) g.1.2.2.1) (bJ (mf g.1.1 g.1.2.1 (iR g.1.2.2.1 (dI (bK d.1.2.2.1)) ((dN g.1.2.2.1 (0,(0,(0,(0,())))) (dI (bK d.1.2.2.1))).1,((dN g.1.2.2.1 (0,(0,(0,(0,())))) (dI (bK d.1.2.2.1))).2.1,(g.1.2.1,((dN g.1.2.2.1 (0,(0,(0,(0,())))) (dI (bK d.1.2.2.1))).2.2.2.1,()))))) d.1.2.2.2.1 g.1.2.2.2.2.1 [121]) fun i=>cond (!i.2.1) (l i.1.1 i.1.2.1 i.1.2.2.2.1 i.1.2.2.2.2.1 i.1.2.2.1)<|bJ (rD i.1.1 i.1.2.1 i.1.2.2.1 i.1.2.2.2.1 i.1.2.2.2.2.1) fun j=>o j.1.1 j.1.2.1 j.1.2.2.2.1 j.1.2.2.2.2.1 j.1.2.2.1) a7) a7) a7) a7) a7) a7) a7) a7) a7) a7)<|l d.1.1 d.1.2.1 d.1.2.2.2.1 d.1.2.2.2.2.1 d.1.2.2.1)<|l f.1.1 f.1.2.1 f.1.2.2.2.1 f.1.2.2.2.2.1 f.1.2.2.1
def Jo (q:fH):Nat->(List gJ)->Int->Int->Int->(List gQ)->Option (ad2.den⊕aeB.den)
 |0,_,_,_,_,_=>a7
 |n+1,d,e,f,g,i=>U0 q (Jo q n) (fun j l m o p=>a6 (.inl ((),((),()),((j,l,m,o,()),p,())))) (a6 (.inr ((),((),()),()))) d e f g i
def aCZ (q:fH) (n:Nat) (v:adr.den):=bq (Jo q n) v
noncomputable def anS (q:fH):dD:=fP aw6 adr ad2 aeB (.exit 0) (aCZ q bT) 6
def av3 (q:fH) (l:List gJ) (m:Int) (o:List gQ) (p s:Int):Option wF:=bJ (RH l m o p s) fun d=>bJ (rD d.1.1 d.1.2.1 d.1.2.2.1 d.1.2.2.2.1 d.1.2.2.2.2.1) fun e=>bJ (uF e.1.1 e.1.2.1 e.1.2.2.1 e.1.2.2.2.1 e.1.2.2.2.2.1 [107]) fun f=>bJ (rD f.1.1 f.1.2.1 f.1.2.2.1 f.1.2.2.2.1 f.1.2.2.2.2.1) fun g=>bJ (Jo q bT g.1.1 g.1.2.1 g.1.2.2.2.1 g.1.2.2.2.2.1 g.1.2.2.1) fun u=>dR u (fun i=>bJ (uF i.2.2.1.1 i.2.2.1.2.1 i.2.2.2.1 i.2.2.1.2.2.1 i.2.2.1.2.2.2.1 [122]) fun j=>a6 ((j.1.1,(j.1.2.1,(j.1.2.2.1,(j.1.2.2.2.1,(j.1.2.2.2.2.1,()))))),())) (fun v=>a7)
noncomputable def ajn (q:fH):Env:=gY prog tt [] [(277,4,aw6),(277,600005,EX),(67,600003,kW)] [(277,4,anS q)] [] [(106,Aq),(152,azE),(153,alD),(156,Gi),(280,afw),(281,Iz),(282,afx),(287,apL q)]
def apk (q:fH) {d:Type} (a:adr.den->Option d) (b:ad2.den->Option d) (c:aeB.den->Option d) (v:adr.den):Option d:=bq (U0 q (bp a) (bp b) (c ((),((),()),()))) v
theorem aDJ (q:fH):dX (ajn q) 277 aup (anS q):=mF (apk q) (h2:=by intros;simp only[apk,bp,bq,U0,dm,dn,bI,di,dw])
theorem aHZ (q:fH):dO (ajn q) 277 aGy:=pI [aup] (aD (fM (aDJ q)) aN)
theorem aq1 (q:fH) (H:J4 q):fK (ajn q):=eB aN [277] (aD ⟨Tryz.f277,aGy,by kernel_rfl,by kernel_rfl,aHZ q⟩ aN) (hx:=(aD lZ (aD Q4 (aD vG (aD tu (aD JV (aD vI (aD JW (aD H.2.2.2.2.2.2.2.2.2.2.2.2.2.1 aN)))))))))
noncomputable def aGz:Code:=(f287.body).getD .skip
noncomputable def auq:Code:=cA (cA (cA (cB (cB (aGz)))))
def aw7:fJ:=⟨[0,100002],[],[0],[],[],[]⟩
def ads:SQ:=⟨us b8 19,dy,ef⟩
def ad3:SQ:=⟨us b8 19,dy,ef⟩
def aeC:SQ:=⟨us [] 20,dy,[]⟩
def U1 (q:fH) {f:Type} (g i:(List gJ)->Int->Int->Int->(List gQ)->Option f) (s:Option f) (j:List gJ) (l m o:Int) (p:List gQ):Option f:=bJ (mf j l p m o [124]) fun d=>cond d.2.1 (bJ (RH d.1.1 d.1.2.1 d.1.2.2.1 d.1.2.2.2.1 d.1.2.2.2.2.1) fun e=>g e.1.1 e.1.2.1 e.1.2.2.2.1 e.1.2.2.2.2.1 e.1.2.2.1)<|i d.1.1 d.1.2.1 d.1.2.2.2.1 d.1.2.2.2.2.1 d.1.2.2.1
def Ol (q:fH):Nat->(List gJ)->Int->Int->Int->(List gQ)->Option (ad3.den⊕aeC.den)
 |0,_,_,_,_,_=>a7
 |n+1,d,e,f,g,i=>U1 q (Ol q n) (fun j l m o p=>a6 (.inl ((),((),()),((j,l,m,o,()),p,())))) (a6 (.inr ((),((),()),()))) d e f g i
def aC0 (q:fH) (n:Nat) (v:ads.den):=bq (Ol q n) v
noncomputable def anT (q:fH):dD:=fP aw7 ads ad3 aeC (.exit 0) (aC0 q bT) 6
def av6 (q:fH) (m:List gJ) (o:Int) (p:List gQ) (s u:Int):Option wF:=bJ (mf m o p s u [40]) fun f=>bJ (RH f.1.1 f.1.2.1 f.1.2.2.1 f.1.2.2.2.1 f.1.2.2.2.2.1) fun g=>bJ (Ol q bT g.1.1 g.1.2.1 g.1.2.2.2.1 g.1.2.2.2.2.1 g.1.2.2.1) fun v=>dR v (fun i=>bJ (uF i.2.2.1.1 i.2.2.1.2.1 i.2.2.2.1 i.2.2.1.2.2.1 i.2.2.1.2.2.2.1 [41]) fun j=>bJ (rD j.1.1 j.1.2.1 j.1.2.2.1 j.1.2.2.2.1 j.1.2.2.2.2.1) fun l=>bJ (Kt l.1.1 l.1.2.1 l.1.2.2.1 l.1.2.2.2.1 l.1.2.2.2.2.1) fun d=>cond d.2.1 (cond (bY 2 2) (cond (bY d.1.2.1 d.1.2.1) (cond (bY d.1.2.2.2.1 d.1.2.2.2.1) (cond (eu (bU d.1.2.2.1 [(2,(d.1.2.1,(0,(d.1.2.2.2.1,()))))]) 32) (cond (bY 2 2) (cond (bY d.1.2.1 d.1.2.1) (cond (bY d.1.2.2.2.1 d.1.2.2.2.1) (cond ((bY 2 2)&&((bY d.1.2.1 d.1.2.1)&&((bY 0 0)&&((bY d.1.2.2.2.1 d.1.2.2.2.1)&&true)))) (bJ (q.q108 d.1.1 d.1.2.1 (bU d.1.2.2.1 [(2,(d.1.2.1,(0,(d.1.2.2.2.1,()))))]) (bK d.1.2.2.1) d.1.2.2.2.2.1) fun e=>cond (gy e.1.2.2.1 (bK d.1.2.2.1)) (cond (pK (dI (bK d.1.2.2.1)) e.1.2.2.1) (a6 ((e.1.1,(e.1.2.1,((iR e.1.2.2.1 (dI (bK d.1.2.2.1)) ((dN e.1.2.2.1 (0,(0,(0,(0,())))) (dI (bK d.1.2.2.1))).1,((dN e.1.2.2.1 (0,(0,(0,(0,())))) (dI (bK d.1.2.2.1))).2.1,(e.1.2.1,((dN e.1.2.2.1 (0,(0,(0,(0,())))) (dI (bK d.1.2.2.1))).2.2.2.1,()))))),(d.1.2.2.2.1,(e.1.2.2.2.2.1,()))))),())) a7) a7) a7) a7) a7) a7) a7) a7) a7) a7)<|some ((d.1.1,(d.1.2.1,(d.1.2.2.1,(d.1.2.2.2.1,(d.1.2.2.2.2.1,()))))),())) (fun x=>a7)
noncomputable def ajo (q:fH):Env:=gY prog tt [] [(287,2,aw7),(287,600007,EX),(67,600003,kW)] [(287,2,anT q)] [] [(106,Aq),(107,QW),(108,afp q),(156,Gi),(280,afw),(281,Iz)]
def apl (q:fH) {d:Type} (a:ads.den->Option d) (b:ad3.den->Option d) (c:aeC.den->Option d) (v:ads.den):Option d:=bq (U1 q (bp a) (bp b) (c ((),((),()),()))) v
theorem aDK (q:fH):dX (ajo q) 287 auq (anT q):=mF (apl q) (h2:=by intros;simp only[apl,bp,bq,U1,dm,dn,bI,di,dw])
theorem aH0 (q:fH):dO (ajo q) 287 aGz:=pI [auq] (aD (fM (aDK q)) aN)
theorem aq4 (q:fH) (H:J4 q):fK (ajo q):=eB aN [287] (aD ⟨f287,aGz,by kernel_rfl,by kernel_rfl,aH0 q⟩ aN) (hx:=(aD lZ (aD Ez (aD H.1 (aD tu (aD JV (aD vI aN)))))))
def av5 (q:fH) (g:List gJ) (i:Int) (j:List gQ) (l m:Int):Option wF:=bJ (uF g i j l m [100]) fun d=>bJ (q.q285 d.1.1 d.1.2.1 d.1.2.2.1 d.1.2.2.2.1 d.1.2.2.2.2.1) fun e=>bJ (uF e.1.1 e.1.2.1 e.1.2.2.1 e.1.2.2.2.1 e.1.2.2.2.2.1 [103]) fun f=>a6 ((f.1.1,(f.1.2.1,(f.1.2.2.1,(f.1.2.2.2.1,(f.1.2.2.2.2.1,()))))),())
noncomputable def aGS (q:fH):Env:=gY prog tt [] [] [] [] [(281,Iz),(285,JX q)]
theorem aq3 (q:fH) (H:J4 q):fK (aGS q):=eB aN [] aN (hx:=(aD vI (aD H.2.2.2.2.2.2.1 aN)))
def eH:Nat->fH
 |0=>⟨(fun _ _ _ _ _=>a7),(fun _ _ _ _ _=>a7),(fun _ _ _ _ _=>a7),(fun _ _ _ _ _=>a7),(fun _ _ _ _ _=>a7),(fun _ _ _ _ _=>a7),(fun _ _ _ _ _=>a7),(fun _ _ _ _ _=>a7),(fun _ _ _ _ _=>a7),(fun _ _ _ _ _=>a7),(fun _ _ _ _ _=>a7),(fun _ _ _ _ _=>a7),(fun _ _ _ _ _=>a7),(fun _ _ _ _ _=>a7),(fun _ _ _ _ _=>a7)⟩
 |r+1=>⟨agh (eH r),agi (eH r),VT (eH r),agj (eH r),avX (eH r),DW (eH r),av4 (eH r),avY (eH r),avZ (eH r),av1 (eH r),aEL (eH r),av2 (eH r),av3 (eH r),av6 (eH r),av5 (eH r)⟩
def agn (d:List gJ) (e:Int) (f:List gQ) (g i:Int):Option wF:=(eH bT).q108 d e f g i
def azn:fZ:=⟨117,AA,[],[],fun x y=>agn x.1 x.2.1 x.2.2.1 x.2.2.2.1 x.2.2.2.2.1⟩
def aLF (d:List gJ) (e:Int) (f:List gQ) (g i:Int):Option wF:=(eH bT).q155 d e f g i
def aJz:fZ:=⟨117,AA,[],[],fun x y=>aLF x.1 x.2.1 x.2.2.1 x.2.2.2.1 x.2.2.2.2.1⟩
def aLH (d:List gJ) (e:Int) (f:List gQ) (g i:Int):Option wF:=(eH bT).q205 d e f g i
def aJQ:fZ:=⟨117,AA,[],[],fun x y=>aLH x.1 x.2.1 x.2.2.1 x.2.2.2.1 x.2.2.2.2.1⟩
def aLJ (d:List gJ) (e:Int) (f:List gQ) (g i:Int):Option wF:=(eH bT).q239 d e f g i
def aJ0:fZ:=⟨117,AA,[],[],fun x y=>aLJ x.1 x.2.1 x.2.2.1 x.2.2.2.1 x.2.2.2.2.1⟩
def aLP (d:List gJ) (e:Int) (f:List gQ) (g i:Int):Option wF:=(eH bT).q266 d e f g i
def aKa:fZ:=⟨117,AA,[],[],fun x y=>aLP x.1 x.2.1 x.2.2.1 x.2.2.2.1 x.2.2.2.2.1⟩
def aLO (d:List gJ) (e:Int) (f:List gQ) (g i:Int):Option wF:=(eH bT).q263 d e f g i
def aJ9:fZ:=⟨117,AA,[],[],fun x y=>aLO x.1 x.2.1 x.2.2.1 x.2.2.2.1 x.2.2.2.2.1⟩
def aLW (d:List gJ) (e:Int) (f:List gQ) (g i:Int):Option wF:=(eH bT).q285 d e f g i
def aKi:fZ:=⟨117,AA,[],[],fun x y=>aLW x.1 x.2.1 x.2.2.1 x.2.2.2.1 x.2.2.2.2.1⟩
def aLQ (d:List gJ) (e:Int) (f:List gQ) (g i:Int):Option wF:=(eH bT).q272 d e f g i
def aKc:fZ:=⟨117,AA,[],[],fun x y=>aLQ x.1 x.2.1 x.2.2.1 x.2.2.2.1 x.2.2.2.2.1⟩
def aLR (d:List gJ) (e:Int) (f:List gQ) (g i:Int):Option wF:=(eH bT).q273 d e f g i
def aKd:fZ:=⟨117,AA,[],[],fun x y=>aLR x.1 x.2.1 x.2.2.1 x.2.2.2.1 x.2.2.2.2.1⟩
def aLS (d:List gJ) (e:Int) (f:List gQ) (g i:Int):Option wF:=(eH bT).q274 d e f g i
def aKe:fZ:=⟨117,AA,[],[],fun x y=>aLS x.1 x.2.1 x.2.2.1 x.2.2.2.1 x.2.2.2.2.1⟩
def aLT (d:List gJ) (e:Int) (f:List gQ) (g i:Int):Option wF:=(eH bT).q275 d e f g i
def aKf:fZ:=⟨117,AA,[],[],fun x y=>aLT x.1 x.2.1 x.2.2.1 x.2.2.2.1 x.2.2.2.2.1⟩
def aLU (d:List gJ) (e:Int) (f:List gQ) (g i:Int):Option wF:=(eH bT).q276 d e f g i
def aKg:fZ:=⟨117,AA,[],[],fun x y=>aLU x.1 x.2.1 x.2.2.1 x.2.2.2.1 x.2.2.2.2.1⟩
def aLV (d:List gJ) (e:Int) (f:List gQ) (g i:Int):Option wF:=(eH bT).q277 d e f g i
def aKh:fZ:=⟨117,AA,[],[],fun x y=>aLV x.1 x.2.1 x.2.2.1 x.2.2.2.1 x.2.2.2.2.1⟩
def aLY (d:List gJ) (e:Int) (f:List gQ) (g i:Int):Option wF:=(eH bT).q287 d e f g i
def aKk:fZ:=⟨117,AA,[],[],fun x y=>aLY x.1 x.2.1 x.2.2.1 x.2.2.2.1 x.2.2.2.2.1⟩
def aLX (d:List gJ) (e:Int) (f:List gQ) (g i:Int):Option wF:=(eH bT).q286 d e f g i
def aKj:fZ:=⟨117,AA,[],[],fun x y=>aLX x.1 x.2.1 x.2.2.1 x.2.2.2.1 x.2.2.2.2.1⟩
theorem aaa (q:fH) (d:J4 q):J4 ⟨agh q,agi q,VT q,agj q,avX q,DW q,av4 q,avY q,avZ q,av1 q,aEL q,av2 q,av3 q,av6 q,av5 q⟩:=⟨sB (aqf q d),sB (aqs q d),sB (aqD q d),sB (aqK q d),sB (aqT q d),sB (aqS q d),sB (aq2 q d),sB (aqW q d),sB (aqX q d),sB (aqY q d),sB (aqZ q d),sB (aq0 q d),sB (aq1 q d),sB (aq4 q d),sB (aq3 q d)⟩
theorem nH: ∀r,J4 (eH r)
 |0=>⟨pM fun _ _=>rfl,pM fun _ _=>rfl,pM fun _ _=>rfl,pM fun _ _=>rfl,pM fun _ _=>rfl,pM fun _ _=>rfl,pM fun _ _=>rfl,pM fun _ _=>rfl,pM fun _ _=>rfl,pM fun _ _=>rfl,pM fun _ _=>rfl,pM fun _ _=>rfl,pM fun _ _=>rfl,pM fun _ _=>rfl,pM fun _ _=>rfl⟩
 |r+1=>aaa _ (nH r)
theorem ash:dQ prog 108 azn:=(nH bT).1
theorem aKE:dQ prog 155 aJz:=(nH bT).2.1
theorem aKG:dQ prog 205 aJQ:=(nH bT).2.2.1
theorem aKI:dQ prog 239 aJ0:=(nH bT).2.2.2.1
theorem aKO:dQ prog 266 aKa:=(nH bT).2.2.2.2.1
theorem aKN:dQ prog 263 aJ9:=(nH bT).2.2.2.2.2.1
theorem aKV:dQ prog 285 aKi:=(nH bT).2.2.2.2.2.2.1
theorem aKP:dQ prog 272 aKc:=(nH bT).2.2.2.2.2.2.2.1
theorem aKQ:dQ prog 273 aKd:=(nH bT).2.2.2.2.2.2.2.2.1
theorem aKR:dQ prog 274 aKe:=(nH bT).2.2.2.2.2.2.2.2.2.1
theorem aKS:dQ prog 275 aKf:=(nH bT).2.2.2.2.2.2.2.2.2.2.1
theorem aKT:dQ prog 276 aKg:=(nH bT).2.2.2.2.2.2.2.2.2.2.2.1
theorem aKU:dQ prog 277 aKh:=(nH bT).2.2.2.2.2.2.2.2.2.2.2.2.1
theorem aKX:dQ prog 287 aKk:=(nH bT).2.2.2.2.2.2.2.2.2.2.2.2.2.1
theorem aKW:dQ prog 286 aKj:=(nH bT).2.2.2.2.2.2.2.2.2.2.2.2.2.2
noncomputable def b68:Code:=(f68.body).getD .skip
noncomputable def aEx:Code:=cA (cA (cB (b68)))
def aE3:fJ:=⟨[0,2,100001],[],[],[],[],[]⟩
def aok:SQ:=⟨us [cz,.u,cf] 26,dy,ef⟩
def akE:SQ:=⟨us [] 29,dy,ef⟩
def ak4:SQ:=⟨us [] 29,dy,[]⟩
def QS {g:Type} (i:Bool->(List gJ)->Int->Int->Int->(List gQ)->Option g) (s:(List gJ)->Int->Int->Int->(List gQ)->Option g) (u:Option g) (m:Bool) (j:List gJ) (l o p:Int) (q:List gQ):Option g:=cond (iF l (bK j)) (bJ (mf j l q o p [110]) fun e=>cond e.2.1 (i m e.1.1 e.1.2.1 e.1.2.2.2.1 e.1.2.2.2.2.1 e.1.2.2.1)<|cond (!m) (bJ (Kt e.1.1 e.1.2.1 e.1.2.2.1 e.1.2.2.2.1 e.1.2.2.2.2.1) fun d=>cond d.2.1 (cond (bY 2 2) (cond (bY d.1.2.1 d.1.2.1) (cond (bY d.1.2.2.2.1 d.1.2.2.2.1) (cond (eu (bU d.1.2.2.1 [(2,(d.1.2.1,(0,(d.1.2.2.2.1,()))))]) 32) (cond (bY 2 2) (cond (bY d.1.2.1 d.1.2.1) (cond (bY d.1.2.2.2.1 d.1.2.2.2.1) (cond ((bY 2 2)&&((bY d.1.2.1 d.1.2.1)&&((bY 0 0)&&((bY d.1.2.2.2.1 d.1.2.2.2.1)&&true)))) (bJ (agn d.1.1 d.1.2.1 (bU d.1.2.2.1 [(2,(d.1.2.1,(0,(d.1.2.2.2.1,()))))]) (bK d.1.2.2.1) d.1.2.2.2.2.1) fun f=>cond (gy f.1.2.2.1 (bK d.1.2.2.1)) (cond (pK (dI (bK d.1.2.2.1)) f.1.2.2.1) (i true f.1.1 f.1.2.1 d.1.2.2.2.1 f.1.2.2.2.2.1 (iR f.1.2.2.1 (dI (bK d.1.2.2.1)) ((dN f.1.2.2.1 (0,(0,(0,(0,())))) (dI (bK d.1.2.2.1))).1,((dN f.1.2.2.1 (0,(0,(0,(0,())))) (dI (bK d.1.2.2.1))).2.1,(f.1.2.1,((dN f.1.2.2.1 (0,(0,(0,(0,())))) (dI (bK d.1.2.2.1))).2.2.2.1,())))))) a7) a7) a7) a7) a7) a7) a7) a7) a7) a7)<|bJ (GV d.1.1 d.1.2.1 d.1.2.2.1 d.1.2.2.2.1 d.1.2.2.2.2.1 17) fun f=>i false f.1.1 f.1.2.1 f.1.2.2.2.1 f.1.2.2.2.2.1 f.1.2.2.1)<|bJ (GV e.1.1 e.1.2.1 e.1.2.2.1 e.1.2.2.2.1 e.1.2.2.2.2.1 17) fun d=>i false d.1.1 d.1.2.1 d.1.2.2.2.1 d.1.2.2.2.2.1 d.1.2.2.1)<|s j l o p q
def Ff:Nat->Bool->(List gJ)->Int->Int->Int->(List gQ)->Option (akE.den⊕ak4.den)
 |0,_,_,_,_,_,_=>a7
 |n+1,d,e,f,g,i,j=>QS (Ff n) (fun l m o p q=>a6 (.inl ((),((),()),((l,m,o,p,()),q,())))) (a6 (.inr ((),((),()),()))) d e f g i j
def aIh (n:Nat) (v:aok.den):=bo (Ff n) v
noncomputable def axN:dD:=fP aE3 aok akE ak4 (.exit 0) (aIh bT) 6
def aBU (e:List gJ) (f:Int) (g:List gQ) (i j:Int):Option wF:=bJ (Ff bT false e f i j g) fun l=>dR l (fun d=>a6 ((d.2.2.1.1,(d.2.2.1.2.1,(d.2.2.2.1,(d.2.2.1.2.2.1,(d.2.2.1.2.2.2.1,()))))),())) (fun m=>a7)
def aNk:fZ:=⟨117,AA,[],[],fun x y=>aBU x.1 x.2.1 x.2.2.1 x.2.2.2.1 x.2.2.2.2.1⟩
noncomputable def avh:Env:=gY prog tt [] [(68,1,aE3),(68,600006,EX),(67,600003,kW)] [(68,1,axN)] [] [(106,Aq),(107,QW),(108,azn),(109,afq)]
def ayT {d:Type} (a:aok.den->Option d) (b:akE.den->Option d) (c:ak4.den->Option d) (v:aok.den):Option d:=bo (QS (bm a) (bp b) (c ((),((),()),()))) v
theorem aIS:dX avh 68 aEx axN:=mF (ayT) (h2:=by intros;simp only[ayT,bm,bp,bo,QS,dm,dn,bI,di,dw])
theorem aMz:dO avh 68 b68:=pI [aEx] (aD (fM (aIS)) aN)
theorem avi:fK avh:=eB aN [68] (aD ⟨f68,b68,by kernel_rfl,by kernel_rfl,aMz⟩ aN) (hx:=(aD lZ (aD Ez (aD ash (aD JQ aN)))))
theorem aAo:dQ prog 68 aNk:=sB avi
def Wi (e:List gJ):Option ((List gQ)×Unit):=cond (bY 1 1) (cond (bY 0 0) (cond (bY (-1) (-1)) (cond (eu [(1,(0,(0,((-1),()))))] 32) (cond (bY 1 1) (cond (bY 0 0) (cond (bY (-1) (-1)) (cond ((bY 1 1)&&((bY 0 0)&&((bY 0 0)&&((bY (-1) (-1))&&true)))) (bJ (aBU e 0 [(1,(0,(0,((-1),()))))] 0 0) fun d=>cond (gy d.1.2.2.1 0) (cond (pK (dI 0) d.1.2.2.1) (a6 ((iR d.1.2.2.1 (dI 0) ((dN d.1.2.2.1 (0,(0,(0,(0,())))) (dI 0)).1,((dN d.1.2.2.1 (0,(0,(0,(0,())))) (dI 0)).2.1,(d.1.2.1,((dN d.1.2.2.1 (0,(0,(0,(0,())))) (dI 0)).2.2.2.1,()))))),())) a7) a7) a7) a7) a7) a7) a7) a7) a7) a7
def aFs:Sum:=⟨[ru],[(.list o8,false)],fun x=>Wi x.1⟩
theorem az4:dU prog 30 aFs:=qC [(30,600002,⟨[3],[],[],[],[],[]⟩),(67,600003,kW)] aN (sF aAo aN)
noncomputable def b71:Code:=(f71.body).getD .skip
noncomputable def aEz:Code:=cA (cA (cB (cA (cB (cB (cB (b71)))))))
def aE5:fJ:=⟨[3,4,100005],[],[],[],[2],[]⟩
def aom:SP:=⟨us [.u,.u,.u,b9,bX] 25,[]⟩
def akG:SP:=⟨us [] 30,[]⟩
def ak6:SP:=⟨us [.u,.u,cf] 27,[]⟩
def afd {f:Type} (g:bV->Int->Option f) (i:Option f) (j:Bool->Option f) (e:bV) (d:Int):Option f:=cond (leI (cO .i64 d (bK e)) 65) (cond (eY (bK [32,33,32,123,32,125,32,99,97,115,101,32,100,111,32,100,111,110,101,32,101,108,105,102,32,101,108,115,101,32,101,115,97,99,32,102,105,32,102,111,114,32,105,102,32,105,110,32,116,104,101,110,32,117,110,116,105,108,32,119,104,105,108,101,32]) d (cO .i64 d (bK e))) (cond (gp (sub [32,33,32,123,32,125,32,99,97,115,101,32,100,111,32,100,111,110,101,32,101,108,105,102,32,101,108,115,101,32,101,115,97,99,32,102,105,32,102,111,114,32,105,102,32,105,110,32,116,104,101,110,32,117,110,116,105,108,32,119,104,105,108,101,32] d (cO .i64 d (bK e))) e) (j true)<|g e (cO .i64 d 1)) a7) i
def WP:Nat->bV->Int->Option (akG.den⊕ak6.den)
 |0,_,_=>a7
 |n+1,d,e=>afd (WP n) (a6 (.inl ((),()))) (fun f=>a6 (.inr ((f,()),()))) d e
def aIj (n:Nat) (v:aom.den):=WP n v.1.1 v.1.2.1
noncomputable def axP:dD:=gu aE5 aom akG ak6 (.exit 0) (aIj bT) 6
def awg (d:bV):Option vJ:=cond (bY (bK d) 0) (a6 (false,()))<|bJ (Qa 32 d) fun e=>cond e.1 (a6 (false,()))<|cond (iQ [32] d) (cond (iQ (bU [32] d) [32]) (bJ (WP bT (bU (bU [32] d) [32]) 0) fun f=>dR f (fun i=>a6 (false,())) (fun g=>a6 (g.1.1,()))) a7) a7
def aFI:Sum:=⟨[.str],YI,fun x=>awg x.1⟩
noncomputable def avm:Env:=jm prog tt 71 [(73,aFJ)] [(5,aE5)] [(5,axP)]
def ayV {d:Type} (a:aom.den->Option d) (b:akG.den->Option d) (c:ak6.den->Option d) (v:aom.den):Option d:=afd (aL a) (b ((),())) (aE c) v.1.1 v.1.2.1
theorem aIU:dX avm 71 aEz axP:=yu (ayV) (h2:=by intros;simp only[ayV,aL,aE,afd,dm,dn,bI,di,dw])
theorem aMC:dO avm 71 b71:=pI [aEz] (aD (fM (aIU)) aN)
theorem avn:fK avm:=eA f71 (aD Py aN) (aMC)
theorem aAq:dU prog 71 aFI:=sA avn
noncomputable def b32:Code:=(f32.body).getD .skip
noncomputable def aEo:Code:=cA (cA (cB (cA (cA (cB (cA (cB (cB (cB (b32))))))))))
def aEW:fJ:=⟨[1,3,100007],[],[],[],[2],[]⟩
def aob:SP:=⟨us [.u,cX,.u,bX] 59,[.box 1000001 43 [bX,b9,bX,bX]]⟩
def akw:SP:=⟨us [] 63,[]⟩
def akW:SP:=⟨us fu 60,[]⟩
def ae7 {e:Type} (g:Int->Int->bV->Int->Int->Option e) (i:Option e) (j:bV->Option e) (d l:Int) (f:bV) (m o:Int):Option e:=cond (leI d 17) (bJ (aca d) fun p=>cond (gp p.1 f) (cond (eY (bK [97,111,121,60,60,60,60,60,60,60,60,60,38,59,124,40,41]) (eP .i64 d 1) d) (j (sub [97,111,121,60,60,60,60,60,60,60,60,60,38,59,124,40,41] (eP .i64 d 1) d)) a7)<|g (cO .i64 d 1) l f m o) i
def WM:Nat->Int->Int->bV->Int->Int->Option (akw.den⊕akW.den)
 |0,_,_,_,_,_=>a7
 |n+1,d,e,f,g,i=>ae7 (WM n) (a6 (.inl ((),()))) (fun j=>a6 (.inr ((j,()),()))) d e f g i
def aH8 (n:Nat) (v:aob.den):=WM n v.1.1 v.2.1.1 v.2.1.2.1 v.2.1.2.2.1 v.2.1.2.2.2.1
noncomputable def axE:dD:=gu aEW aob akw akW (.exit 0) (aH8 bT) 6
def nS (d:gJ):Option taV:=cond (bY d.1 2) (a6 ([110],()))<|cond (bY d.1 5) (a6 ([35],()))<|cond (bY d.1 4) (bJ (WM bT 1 d.1 d.2.1 d.2.2.1 d.2.2.2.1) fun e=>dR e (fun g=>a6 ([63],())) (fun f=>a6 (f.1.1,())))<|cond (!(bY d.1 6)) (a6 ([63],()))<|bJ (awg d.2.1) fun e=>cond (!e.1) (a6 ([120],()))<|cond (bY (bK d.2.1) 1) (a6 (d.2.1,()))<|cond (gp d.2.1 [105,102]) (a6 ([105],()))<|cond (gp d.2.1 [105,110]) (a6 ([107],()))<|cond (gp d.2.1 [101,108,115,101]) (a6 ([108],()))<|cond (gp d.2.1 [101,115,97,99]) (a6 ([122],()))<|cond (gp d.2.1 [102,111,114]) (a6 ([114],()))<|cond (gp d.2.1 [100,111,110,101]) (a6 ([103],()))<|cond (gp d.2.1 [117,110,116,105,108]) (a6 ([119],()))<|cond (eY (bK d.2.1) 0 1) (a6 ((sub d.2.1 0 1),())) a7
def aFt:Sum:=⟨[tyD],tzG,fun x=>nS x.1⟩
noncomputable def auY:Env:=jm prog tt 32 [(71,aFI),(70,apN)] [(7,aEW)] [(7,axE)]
def ayK {d:Type} (a:aob.den->Option d) (b:akw.den->Option d) (c:akW.den->Option d) (v:aob.den):Option d:=ae7 (fun e f g i j=>a ((e,()),((f,g,i,j,()),()))) (b ((),())) (aE c) v.1.1 v.2.1.1 v.2.1.2.1 v.2.1.2.2.1 v.2.1.2.2.2.1
theorem aIJ:dX auY 32 aEo axE:=yu (ayK) (h2:=by intros;simp only[ayK,aE,ae7,dm,dn,bI,di,dw])
theorem aMo:dO auY 32 b32:=pI [aEo] (aD (fM (aIJ)) aN)
theorem auZ:fK auY:=eA f32 (aD aAq (aD Yt aN)) (aMo)
theorem az5:dU prog 32 aFt:=sA auZ
def awh (d:Int):Option vJ:=cond (leI 9 d) (cond (leI d 14) (a6 (true,()))<|some ((bY d 16),()))<|some ((bY d 16),())
def aNl:Sum:=⟨[dA],YI,fun x=>awh x.1⟩
theorem aio:dU prog 72 aNl:=qA f72 [] aN
def Gw (i:List gJ) (j:bV) (g:List gQ) (d e l f:Int):Option (taF×AQ):=cond (bY f f) (cond (bY d d) (cond (bY e e) (cond (eu (bU g [(f,(d,(0,(e,()))))]) 32) (cond (bY f f) (cond (bY d d) (cond (bY e e) (cond ((bY f f)&&((bY d d)&&((bY 0 0)&&((bY e e)&&true)))) (bJ (awh f) fun m=>cond m.1 (a6 ((i,(j,((bU g [(f,(d,(0,(e,()))))]),(d,((eP .i64 (bK (bU g [(f,(d,(0,(e,()))))])) 1),((cO .i64 l 1),())))))),(e,())))<|some ((i,(j,((bU g [(f,(d,(0,(e,()))))]),(d,((eP .i64 (bK (bU g [(f,(d,(0,(e,()))))])) 1),(l,())))))),(e,()))) a7) a7) a7) a7) a7) a7) a7) a7
def Tq:fZ:=⟨82,ML,[dA],[dA],fun x y=>Gw x.1 x.2.1 x.2.2.1 x.2.2.2.1 x.2.2.2.2.1 x.2.2.2.2.2.1 y.1⟩
theorem rU:dQ prog 33 Tq:=qB [] (sE aio aN)
def pU (f:List gJ) (d:bV) (g:List gQ) (e i j:Int) (l:bV):Option (taF×vJ):=cond (iF e (bK d)) (cond (gy d e) (bJ (Qa (cu d e) l) fun m=>a6 ((f,(d,(g,(e,(i,(j,())))))),(m.1,()))) a7)<|some ((f,(d,(g,(e,(i,(j,())))))),(false,()))
def KR:fZ:=⟨82,ML,[.str],[.bool],fun x y=>pU x.1 x.2.1 x.2.2.1 x.2.2.2.1 x.2.2.2.2.1 x.2.2.2.2.2.1 y.1⟩
theorem lT:dQ prog 34 KR:=qB [] (sE Py aN)
def ZO (f:List gJ) (g:bV) (i:List gQ) (j l m:Int):Option (taF×vJ):=bJ (pU f g i j l m [60]) fun e=>cond e.2.1 (a6 ((e.1.1,(e.1.2.1,(e.1.2.2.1,(e.1.2.2.2.1,(e.1.2.2.2.2.1,(e.1.2.2.2.2.2.1,())))))),(true,())))<|bJ (pU e.1.1 e.1.2.1 e.1.2.2.1 e.1.2.2.2.1 e.1.2.2.2.2.1 e.1.2.2.2.2.2.1 [35]) fun d=>cond d.2.1 (cond (iF (cO .i64 d.1.2.2.2.1 1) (bK d.1.2.1)) (cond (gy d.1.2.1 (cO .i64 d.1.2.2.2.1 1)) (a6 ((d.1.1,(d.1.2.1,(d.1.2.2.1,(d.1.2.2.2.1,(d.1.2.2.2.2.1,(d.1.2.2.2.2.2.1,())))))),((bY (cu d.1.2.1 (cO .i64 d.1.2.2.2.1 1)) 60),()))) a7)<|some ((d.1.1,(d.1.2.1,(d.1.2.2.1,(d.1.2.2.2.1,(d.1.2.2.2.2.1,(d.1.2.2.2.2.2.1,())))))),(false,())))<|some ((d.1.1,(d.1.2.1,(d.1.2.2.1,(d.1.2.2.2.1,(d.1.2.2.2.2.1,(d.1.2.2.2.2.2.1,())))))),(false,()))
def alA:fZ:=⟨82,ML,[],[.bool],fun x y=>ZO x.1 x.2.1 x.2.2.1 x.2.2.2.1 x.2.2.2.2.1 x.2.2.2.2.2.1⟩
theorem QX:dQ prog 117 alA:=qB [] aN (sF lT aN)
def V3 (e:List gJ) (f:bV) (g:List gQ) (i j l:Int):Option (taF×vJ):=bJ (pU e f g i j l [123,40,105,119,114,99]) fun d=>cond d.2.1 (a6 ((d.1.1,(d.1.2.1,(d.1.2.2.1,(d.1.2.2.2.1,(d.1.2.2.2.2.1,(d.1.2.2.2.2.2.1,())))))),((iF d.1.2.2.2.2.2.1 200),())))<|some ((d.1.1,(d.1.2.1,(d.1.2.2.1,(d.1.2.2.2.1,(d.1.2.2.2.2.1,(d.1.2.2.2.2.2.1,())))))),(false,()))
def azu:fZ:=⟨82,ML,[],[.bool],fun x y=>V3 x.1 x.2.1 x.2.2.1 x.2.2.2.1 x.2.2.2.2.1 x.2.2.2.2.2.1⟩
theorem aaM:dQ prog 118 azu:=qB [] aN (sF lT aN)
def awi (g:List gJ) (i:bV) (j:List gQ) (l m o:Int):Option (taF×vJ):=bJ (pU g i j l m o [120]) fun d=>cond d.2.1 (a6 ((d.1.1,(d.1.2.1,(d.1.2.2.1,(d.1.2.2.2.1,(d.1.2.2.2.2.1,(d.1.2.2.2.2.2.1,())))))),(true,())))<|bJ (ZO d.1.1 d.1.2.1 d.1.2.2.1 d.1.2.2.2.1 d.1.2.2.2.2.1 d.1.2.2.2.2.2.1) fun e=>cond e.2.1 (a6 ((e.1.1,(e.1.2.1,(e.1.2.2.1,(e.1.2.2.2.1,(e.1.2.2.2.2.1,(e.1.2.2.2.2.2.1,())))))),(true,())))<|bJ (V3 e.1.1 e.1.2.1 e.1.2.2.1 e.1.2.2.2.1 e.1.2.2.2.2.1 e.1.2.2.2.2.2.1) fun f=>a6 ((f.1.1,(f.1.2.1,(f.1.2.2.1,(f.1.2.2.2.1,(f.1.2.2.2.2.1,(f.1.2.2.2.2.2.1,())))))),(f.2.1,()))
def aFK:fZ:=⟨82,ML,[],[.bool],fun x y=>awi x.1 x.2.1 x.2.2.1 x.2.2.2.1 x.2.2.2.2.1 x.2.2.2.2.2.1⟩
theorem aip:dQ prog 74 aFK:=qB [] aN (sF lT (sF QX (sF aaM aN)))
def Tz (f:List gJ) (g:bV) (i:List gQ) (j l m:Int):Option (taF×vJ):=bJ (pU f g i j l m [33]) fun d=>cond d.2.1 (a6 ((d.1.1,(d.1.2.1,(d.1.2.2.1,(d.1.2.2.2.1,(d.1.2.2.2.2.1,(d.1.2.2.2.2.2.1,())))))),(true,())))<|bJ (awi d.1.1 d.1.2.1 d.1.2.2.1 d.1.2.2.2.1 d.1.2.2.2.2.1 d.1.2.2.2.2.2.1) fun e=>a6 ((e.1.1,(e.1.2.1,(e.1.2.2.1,(e.1.2.2.2.1,(e.1.2.2.2.2.1,(e.1.2.2.2.2.2.1,())))))),(e.2.1,()))
def aa5:fZ:=⟨82,ML,[],[.bool],fun x y=>Tz x.1 x.2.1 x.2.2.1 x.2.2.2.1 x.2.2.2.2.1 x.2.2.2.2.2.1⟩
theorem IA:dQ prog 35 aa5:=qB [] aN (sF lT (sF aip aN))
end
section
open Option renaming some → a6, none → a7
open Tryz
open Go.RowKit
def P9 (d:List gQ) (e f:Int):=iR d (dI e) ((dN d (0,(0,(0,(0,())))) (dI e)).1,((dN d (0,(0,(0,(0,())))) (dI e)).2.1,(f,((dN d (0,(0,(0,(0,())))) (dI e)).2.2.2.1,()))))
def rE (g:List gJ) (i:bV) (e:List gQ) (f d j l:Int):Option Gs:=cond (gy e d) (cond (pK (dI d) e) (cond (gy (P9 e d f) d) (cond (pK (dI d) (P9 e d f)) (bJ (awh (dN (P9 e d f) (0,(0,(0,(0,())))) (dI d)).1) fun m=>cond m.1 (a6 ((g,(i,((P9 e d f),(f,(l,((eP .i64 j 1),())))))),()))<|some ((g,(i,((P9 e d f),(f,(l,(j,())))))),())) a7) a7) a7) a7
def Tt:fZ:=⟨82,ML,[dA],[],fun x y=>rE x.1 x.2.1 x.2.2.1 x.2.2.2.1 x.2.2.2.2.1 x.2.2.2.2.2.1 y.1⟩
theorem rV:dQ prog 38 Tt:=qB [] (sE aio aN)
noncomputable def b76:Code:=(f76.body).getD .skip
noncomputable def aEC:Code:=cA (cA (cA (cB (cB (b76)))))
def aop:SQ:=⟨us fc 13,dy,bO⟩
def akJ:SQ:=⟨us [.u,.u,.u,bX] 13,dy,bO⟩
def ak9:SQ:=⟨us er 14,dy,[]⟩
def aff {e:Type} (g i:Int->(List gJ)->bV->Int->Int->Int->(List gQ)->Option e) (s:Int->Option e) (f:Int) (j:List gJ) (l:bV) (m o p:Int) (q:List gQ):Option e:=bJ (pU j l q m o p [110]) fun d=>cond d.2.1 (g (cO .i64 f 1) d.1.1 d.1.2.1 (cO .i64 d.1.2.2.2.1 1) d.1.2.2.2.2.1 d.1.2.2.2.2.2.1 d.1.2.2.1)<|i f d.1.1 d.1.2.1 d.1.2.2.2.1 d.1.2.2.2.2.1 d.1.2.2.2.2.2.1 d.1.2.2.1
def WR:Nat->Int->(List gJ)->bV->Int->Int->Int->(List gQ)->Option (akJ.den⊕ak9.den)
 |0,_,_,_,_,_,_,_=>a7
 |n+1,d,e,f,g,i,j,l=>aff (WR n) (fun m o p q s u v=>a6 (.inl ((m,()),((),()),((o,p,q,s,u,()),v,())))) (fun x=>a6 (.inr ((x,()),((),()),()))) d e f g i j l
def aIm (n:Nat) (v:aop.den):=bA (WR n) v
noncomputable def axS:dD:=fP acs aop akJ ak9 (.exit 0) (aIm bT) 6
def uK (e:List gJ) (f:bV) (g:List gQ) (i j l:Int):Option (taF×AQ):=bJ (WR bT 0 e f i j l g) fun m=>dR m (fun d=>a6 ((d.2.2.1.1,(d.2.2.1.2.1,(d.2.2.2.1,(d.2.2.1.2.2.1,(d.2.2.1.2.2.2.1,(d.2.2.1.2.2.2.2.1,())))))),(d.1.1,()))) (fun o=>a7)
def Tu:fZ:=⟨82,ML,[],[dA],fun x y=>uK x.1 x.2.1 x.2.2.1 x.2.2.2.1 x.2.2.2.2.1 x.2.2.2.2.2.1⟩
noncomputable def avs:Env:=gY prog tt [] [(76,2,acs)] [(76,2,axS)] [] [(34,KR)]
def ayY {d:Type} (a:aop.den->Option d) (b:akJ.den->Option d) (c:ak9.den->Option d) (v:aop.den):Option d:=bA (aff (bx a) (bx b) (fun e=>c ((e,()),((),()),()))) v
theorem aIX:dX avs 76 aEC axS:=mF (ayY) (h2:=by intros;simp only[ayY,bx,bA,aff,dm,dn,bI,di,dw])
theorem aMF:dO avs 76 b76:=pI [aEC] (aD (fM (aIX)) aN)
theorem avt:fK avs:=eB aN [76] (aD ⟨f76,b76,by kernel_rfl,by kernel_rfl,aMF⟩ aN) (hx:=(aD lT aN))
theorem Ar:dQ prog 76 Tu:=sB avt
def wV (f:List gJ) (g:bV) (i:List gQ) (j l m:Int):Option Gs:=bJ (Gw f g i j l m 18) fun d=>bJ (rE d.1.1 d.1.2.1 d.1.2.2.1 d.1.2.2.2.1 d.1.2.2.2.2.1 d.1.2.2.2.2.2.1 d.2.1) fun e=>a6 ((e.1.1,(e.1.2.1,(e.1.2.2.1,(e.1.2.2.2.1,(e.1.2.2.2.2.1,(e.1.2.2.2.2.2.1,())))))),())
def Yp:fZ:=⟨82,ML,[],[],fun x y=>wV x.1 x.2.1 x.2.2.1 x.2.2.2.1 x.2.2.2.2.1 x.2.2.2.2.2.1⟩
theorem zu:dQ prog 120 Yp:=qB [] aN (sF rU (sF rV aN))
def P8 (f:List gJ) (g:bV) (i:List gQ) (j l m o:Int):Option Gs:=bJ (Gw f g i j l m o) fun d=>bJ (rE d.1.1 d.1.2.1 d.1.2.2.1 (cO .i64 d.1.2.2.2.1 1) d.1.2.2.2.2.1 d.1.2.2.2.2.2.1 d.2.1) fun e=>a6 ((e.1.1,(e.1.2.1,(e.1.2.2.1,(e.1.2.2.2.1,(e.1.2.2.2.2.1,(e.1.2.2.2.2.2.1,())))))),())
def apM:fZ:=⟨82,ML,[dA],[],fun x y=>P8 x.1 x.2.1 x.2.2.1 x.2.2.2.1 x.2.2.2.2.1 x.2.2.2.2.2.1 y.1⟩
theorem Pv:dQ prog 37 apM:=qB [] aN (sF rU (sF rV aN))
def oJ (f:List gJ) (g:bV) (i:List gQ) (j l m:Int) (o:bV):Option Gs:=bJ (pU f g i j l m o) fun d=>cond d.2.1 (a6 ((d.1.1,(d.1.2.1,(d.1.2.2.1,((cO .i64 d.1.2.2.2.1 1),(d.1.2.2.2.2.1,(d.1.2.2.2.2.2.1,())))))),()))<|bJ (wV d.1.1 d.1.2.1 d.1.2.2.1 d.1.2.2.2.1 d.1.2.2.2.2.1 d.1.2.2.2.2.2.1) fun e=>a6 ((e.1.1,(e.1.2.1,(e.1.2.2.1,(e.1.2.2.2.1,(e.1.2.2.2.2.1,(e.1.2.2.2.2.2.1,())))))),())
def Yr:fZ:=⟨82,ML,[.str],[],fun x y=>oJ x.1 x.2.1 x.2.2.1 x.2.2.2.1 x.2.2.2.2.1 x.2.2.2.2.2.1 y.1⟩
theorem JU:dQ prog 216 Yr:=qB [] aN (sF lT (sF zu aN))
def zO (e:List gJ) (g:bV) (i:List gQ) (f j l:Int):Option Gs:=cond (iF f (bK e)) (cond (gy e f) (cond (bY (ed e (0,([],(0,(0,())))) f).1 6) (bJ (P8 e g i f j l 7) fun d=>a6 ((d.1.1,(d.1.2.1,(d.1.2.2.1,(d.1.2.2.2.1,(d.1.2.2.2.2.1,(d.1.2.2.2.2.2.1,())))))),()))<|bJ (wV e g i f j l) fun d=>a6 ((d.1.1,(d.1.2.1,(d.1.2.2.1,(d.1.2.2.2.1,(d.1.2.2.2.2.1,(d.1.2.2.2.2.2.1,())))))),())) a7)<|bJ (wV e g i f j l) fun d=>a6 ((d.1.1,(d.1.2.1,(d.1.2.2.1,(d.1.2.2.2.1,(d.1.2.2.2.2.1,(d.1.2.2.2.2.2.1,())))))),())
def azX:fZ:=⟨82,ML,[],[],fun x y=>zO x.1 x.2.1 x.2.2.1 x.2.2.2.1 x.2.2.2.2.1 x.2.2.2.2.2.1⟩
theorem aa3:dQ prog 250 azX:=qB [] aN (sF Pv (sF zu aN))
def agF (i:List gJ) (j:bV) (l:List gQ) (m o p:Int):Option Gs:=bJ (Gw i j l m o p 8) fun g=>bJ (pU g.1.1 g.1.2.1 g.1.2.2.1 g.1.2.2.2.1 g.1.2.2.2.2.1 g.1.2.2.2.2.2.1 [35]) fun d=>cond d.2.1 (bJ (zO d.1.1 d.1.2.1 d.1.2.2.1 (cO .i64 (cO .i64 d.1.2.2.2.1 1) 1) d.1.2.2.2.2.1 d.1.2.2.2.2.2.1) fun e=>bJ (rE e.1.1 e.1.2.1 e.1.2.2.1 e.1.2.2.2.1 e.1.2.2.2.2.1 e.1.2.2.2.2.2.1 g.2.1) fun f=>a6 ((f.1.1,(f.1.2.1,(f.1.2.2.1,(f.1.2.2.2.1,(f.1.2.2.2.2.1,(f.1.2.2.2.2.2.1,())))))),()))<|bJ (zO d.1.1 d.1.2.1 d.1.2.2.1 (cO .i64 d.1.2.2.2.1 1) d.1.2.2.2.2.1 d.1.2.2.2.2.2.1) fun e=>bJ (rE e.1.1 e.1.2.1 e.1.2.2.1 e.1.2.2.2.1 e.1.2.2.2.2.1 e.1.2.2.2.2.2.1 g.2.1) fun f=>a6 ((f.1.1,(f.1.2.1,(f.1.2.2.1,(f.1.2.2.2.1,(f.1.2.2.2.2.1,(f.1.2.2.2.2.2.1,())))))),())
def alI:fZ:=⟨82,ML,[],[],fun x y=>agF x.1 x.2.1 x.2.2.1 x.2.2.2.1 x.2.2.2.2.1 x.2.2.2.2.2.1⟩
theorem aaZ:dQ prog 217 alI:=qB [] aN (sF rU (sF lT (sF rV (sF aa3 aN))))
noncomputable def aLo:Code:=(Tryz.f218.body).getD .skip
noncomputable def auf:Code:=cA (cA (cB (cA (cB (aLo)))))
def awX:fJ:=⟨[0,3,100002],[],[],[],[2],[]⟩
def adg:SP:=⟨us [b9,.u,.u,bX] 17,[]⟩
def adR:SP:=⟨us [] 21,[]⟩
def aer:SP:=⟨us er 18,[]⟩
def UT {f:Type} (g:bV->Int->Option f) (i:Option f) (j:Int->Option f) (e:bV) (d:Int):Option f:=cond (iF d (bK e)) (cond (gy e d) (cond (bY (cu e d) 61) (cond (eY (bK e) 0 d) (bJ (V9 (sub e 0 d)) fun l=>cond l.1 (j d)<|g e (cO .i64 d 1)) a7)<|g e (cO .i64 d 1)) a7) i
def Fa:Nat->bV->Int->Option (adR.den⊕aer.den)
 |0,_,_=>a7
 |n+1,d,e=>UT (Fa n) (a6 (.inl ((),()))) (fun f=>a6 (.inr ((f,()),()))) d e
def aCP (n:Nat) (v:adg.den):=Fa n v.1.1 v.1.2.1
noncomputable def anI:dD:=gu awX adg adR aer (.exit 0) (aCP bT) 6
def ZW (d:bV):Option AQ:=bJ (Fa bT d 1) fun e=>dR e (fun g=>a6 (0,())) (fun f=>a6 (f.1.1,()))
def azP:Sum:=⟨[.str],U7,fun x=>ZW x.1⟩
noncomputable def aje:Env:=jm prog tt 218 [(215,Yq)] [(2,awX)] [(2,anI)]
def apa {d:Type} (a:adg.den->Option d) (b:adR.den->Option d) (c:aer.den->Option d) (v:adg.den):Option d:=UT (aL a) (b ((),())) (aE c) v.1.1 v.1.2.1
theorem aDz:dX aje 218 auf anI:=yu (apa) (h2:=by intros;simp only[apa,aL,aE,UT,dm,dn,bI,di,dw])
theorem aHP:dO aje 218 aLo:=pI [auf] (aD (fM (aDz)) aN)
theorem aqJ:fK aje:=eA Tryz.f218 (aD JS aN) (aHP)
theorem asW:dU prog 218 azP:=sA aqJ
structure jl where
 q36:(List gJ)->bV->(List gQ)->Int->Int->Int->Option Gs
 q75:(List gJ)->bV->(List gQ)->Int->Int->Int->Option Gs
 q119:(List gJ)->bV->(List gQ)->Int->Int->Int->Option Gs
 q163:(List gJ)->bV->(List gQ)->Int->Int->Int->Option Gs
 q246:(List gJ)->bV->(List gQ)->Int->Int->Int->Option Gs
 q247:(List gJ)->bV->(List gQ)->Int->Int->Int->Option Gs
 q214:(List gJ)->bV->(List gQ)->Int->Int->Int->Option Gs
 q248:(List gJ)->bV->(List gQ)->Int->Int->Int->Option Gs
 q249:(List gJ)->bV->(List gQ)->Int->Int->Int->Option Gs
def alK (q:jl):fZ:=⟨82,ML,[],[],fun x y=>q.q36 x.1 x.2.1 x.2.2.1 x.2.2.2.1 x.2.2.2.2.1 x.2.2.2.2.2.1⟩
def aAr (q:jl):fZ:=⟨82,ML,[],[],fun x y=>q.q75 x.1 x.2.1 x.2.2.1 x.2.2.2.1 x.2.2.2.2.1 x.2.2.2.2.2.1⟩
def apv (q:jl):fZ:=⟨82,ML,[],[],fun x y=>q.q119 x.1 x.2.1 x.2.2.1 x.2.2.2.1 x.2.2.2.2.1 x.2.2.2.2.2.1⟩
def apx (q:jl):fZ:=⟨82,ML,[],[],fun x y=>q.q163 x.1 x.2.1 x.2.2.1 x.2.2.2.1 x.2.2.2.2.1 x.2.2.2.2.2.1⟩
def aft (q:jl):fZ:=⟨82,ML,[],[],fun x y=>q.q246 x.1 x.2.1 x.2.2.1 x.2.2.2.1 x.2.2.2.2.1 x.2.2.2.2.2.1⟩
def afu (q:jl):fZ:=⟨82,ML,[],[],fun x y=>q.q247 x.1 x.2.1 x.2.2.1 x.2.2.2.1 x.2.2.2.2.1 x.2.2.2.2.2.1⟩
def apz (q:jl):fZ:=⟨82,ML,[],[],fun x y=>q.q214 x.1 x.2.1 x.2.2.1 x.2.2.2.1 x.2.2.2.2.1 x.2.2.2.2.2.1⟩
def apC (q:jl):fZ:=⟨82,ML,[],[],fun x y=>q.q248 x.1 x.2.1 x.2.2.1 x.2.2.2.1 x.2.2.2.2.1 x.2.2.2.2.2.1⟩
def apD (q:jl):fZ:=⟨82,ML,[],[],fun x y=>q.q249 x.1 x.2.1 x.2.2.1 x.2.2.2.1 x.2.2.2.2.1 x.2.2.2.2.2.1⟩
noncomputable def b36:Code:=(f36.body).getD .skip
noncomputable def aEp:Code:=cA (cA (cA (cB (cB (b36)))))
def am4:fJ:=⟨[0,2,100002],[],[0,2],[],[],[]⟩
def aoc:SQ:=⟨us fx 27,dy,bO⟩
def ad4:SQ:=⟨us fx 27,dy,bO⟩
def aeD:SQ:=⟨us [] 30,dy,[]⟩
def QR (q:jl) {j:Type} (m l:Int->(List gJ)->bV->Int->Int->Int->(List gQ)->Option j) (y:Option j) (i:Int) (o:List gJ) (p:bV) (s u v:Int) (x:List gQ):Option j:=bJ (pU o p x s u v [59,38]) fun f=>cond f.2.1 (bJ (uK f.1.1 f.1.2.1 f.1.2.2.1 (cO .i64 f.1.2.2.2.1 1) f.1.2.2.2.2.1 f.1.2.2.2.2.2.1) fun e=>bJ (Tz e.1.1 e.1.2.1 e.1.2.2.1 e.1.2.2.2.1 e.1.2.2.2.2.1 e.1.2.2.2.2.2.1) fun d=>cond (!d.2.1) (l i d.1.1 d.1.2.1 d.1.2.2.2.1 d.1.2.2.2.2.1 d.1.2.2.2.2.2.1 d.1.2.2.1)<|bJ (q.q75 d.1.1 d.1.2.1 d.1.2.2.1 d.1.2.2.2.1 d.1.2.2.2.2.1 d.1.2.2.2.2.2.1) fun g=>m i g.1.1 g.1.2.1 g.1.2.2.2.1 g.1.2.2.2.2.1 g.1.2.2.2.2.2.1 g.1.2.2.1)<|bJ (uK f.1.1 f.1.2.1 f.1.2.2.1 f.1.2.2.2.1 f.1.2.2.2.2.1 f.1.2.2.2.2.2.1) fun e=>cond (bY e.2.1 0) (l i e.1.1 e.1.2.1 e.1.2.2.2.1 e.1.2.2.2.2.1 e.1.2.2.2.2.2.1 e.1.2.2.1)<|bJ (Tz e.1.1 e.1.2.1 e.1.2.2.1 e.1.2.2.2.1 e.1.2.2.2.2.1 e.1.2.2.2.2.2.1) fun d=>cond (!d.2.1) (l i d.1.1 d.1.2.1 d.1.2.2.2.1 d.1.2.2.2.2.1 d.1.2.2.2.2.2.1 d.1.2.2.1)<|bJ (q.q75 d.1.1 d.1.2.1 d.1.2.2.1 d.1.2.2.2.1 d.1.2.2.2.2.1 d.1.2.2.2.2.2.1) fun g=>m i g.1.1 g.1.2.1 g.1.2.2.2.1 g.1.2.2.2.2.1 g.1.2.2.2.2.2.1 g.1.2.2.1
def Cm (q:jl):Nat->Int->(List gJ)->bV->Int->Int->Int->(List gQ)->Option (ad4.den⊕aeD.den)
 |0,_,_,_,_,_,_,_=>a7
 |n+1,d,e,f,g,i,j,l=>QR q (Cm q n) (fun m o p s u v x=>a6 (.inl ((m,()),((),()),((o,p,s,u,v,()),x,())))) (a6 (.inr ((),((),()),()))) d e f g i j l
def aH9 (q:jl) (n:Nat) (v:aoc.den):=bA (Cm q n) v
noncomputable def axF (q:jl):dD:=fP am4 aoc ad4 aeD (.exit 0) (aH9 q bT) 6
def aGZ (q:jl) (i:List gJ) (j:bV) (l:List gQ) (m o p:Int):Option Gs:=bJ (Gw i j l m o p 2) fun d=>bJ (q.q75 d.1.1 d.1.2.1 d.1.2.2.1 d.1.2.2.2.1 d.1.2.2.2.2.1 d.1.2.2.2.2.2.1) fun f=>bJ (Cm q bT d.2.1 f.1.1 f.1.2.1 f.1.2.2.2.1 f.1.2.2.2.2.1 f.1.2.2.2.2.2.1 f.1.2.2.1) fun s=>dR s (fun e=>bJ (rE e.2.2.1.1 e.2.2.1.2.1 e.2.2.2.1 e.2.2.1.2.2.1 e.2.2.1.2.2.2.1 e.2.2.1.2.2.2.2.1 e.1.1) fun g=>a6 ((g.1.1,(g.1.2.1,(g.1.2.2.1,(g.1.2.2.2.1,(g.1.2.2.2.2.1,(g.1.2.2.2.2.2.1,())))))),())) (fun u=>a7)
noncomputable def au0 (q:jl):Env:=gY prog tt [] [(36,2,am4)] [(36,2,axF q)] [] [(33,Tq),(34,KR),(35,aa5),(38,Tt),(75,aAr q),(76,Tu)]
def ayL (q:jl) {d:Type} (a:aoc.den->Option d) (b:ad4.den->Option d) (c:aeD.den->Option d) (v:aoc.den):Option d:=bA (QR q (bx a) (bx b) (c ((),((),()),()))) v
theorem aIK (q:jl):dX (au0 q) 36 aEp (axF q):=mF (ayL q) (h2:=by intros;simp only[ayL,bx,bA,QR,dm,dn,bI,di,dw])
theorem aMp (q:jl):dO (au0 q) 36 b36:=pI [aEp] (aD (fM (aIK q)) aN)
abbrev H36 (q:jl):Prop:=dQ prog 36 (alK q)/\dQ prog 75 (aAr q)/\dQ prog 119 (apv q)/\dQ prog 163 (apx q)/\dQ prog 246 (aft q)/\dQ prog 247 (afu q)/\dQ prog 214 (apz q)/\dQ prog 248 (apC q)/\dQ prog 249 (apD q)
theorem au1 (q:jl) (H:H36 q):fK (au0 q):=eB aN [36] (aD ⟨f36,b36,by kernel_rfl,by kernel_rfl,aMp q⟩ aN) (hx:=(aD rU (aD lT (aD IA (aD rV (aD H.2.1 (aD Ar aN)))))))
noncomputable def b75:Code:=(f75.body).getD .skip
noncomputable def aEB:Code:=cA (cA (cA (cB (cB (b75)))))
def aoo:SQ:=⟨us fx 25,dy,bO⟩
def akI:SQ:=⟨us fx 25,dy,bO⟩
def ak8:SQ:=⟨us [] 28,dy,[]⟩
def afe (q:jl) {i:Type} (l m:Int->(List gJ)->bV->Int->Int->Int->(List gQ)->Option i) (y:Option i) (j:Int) (o:List gJ) (p:bV) (s u v:Int) (x:List gQ):Option i:=bJ (pU o p x s u v [97,111]) fun d=>cond d.2.1 (bJ (uK d.1.1 d.1.2.1 d.1.2.2.1 (cO .i64 d.1.2.2.2.1 1) d.1.2.2.2.2.1 d.1.2.2.2.2.2.1) fun g=>bJ (Tz g.1.1 g.1.2.1 g.1.2.2.1 g.1.2.2.2.1 g.1.2.2.2.2.1 g.1.2.2.2.2.2.1) fun e=>cond e.2.1 (bJ (q.q119 e.1.1 e.1.2.1 e.1.2.2.1 e.1.2.2.2.1 e.1.2.2.2.2.1 e.1.2.2.2.2.2.1) fun f=>l j f.1.1 f.1.2.1 f.1.2.2.2.1 f.1.2.2.2.2.1 f.1.2.2.2.2.2.1 f.1.2.2.1)<|bJ (wV e.1.1 e.1.2.1 e.1.2.2.1 e.1.2.2.2.1 e.1.2.2.2.2.1 e.1.2.2.2.2.2.1) fun f=>l j f.1.1 f.1.2.1 f.1.2.2.2.1 f.1.2.2.2.2.1 f.1.2.2.2.2.2.1 f.1.2.2.1)<|m j d.1.1 d.1.2.1 d.1.2.2.2.1 d.1.2.2.2.2.1 d.1.2.2.2.2.2.1 d.1.2.2.1
def WQ (q:jl):Nat->Int->(List gJ)->bV->Int->Int->Int->(List gQ)->Option (akI.den⊕ak8.den)
 |0,_,_,_,_,_,_,_=>a7
 |n+1,d,e,f,g,i,j,l=>afe q (WQ q n) (fun m o p s u v x=>a6 (.inl ((m,()),((),()),((o,p,s,u,v,()),x,())))) (a6 (.inr ((),((),()),()))) d e f g i j l
def aIl (q:jl) (n:Nat) (v:aoo.den):=bA (WQ q n) v
noncomputable def axR (q:jl):dD:=fP am4 aoo akI ak8 (.exit 0) (aIl q bT) 6
def aG0 (q:jl) (i:List gJ) (j:bV) (l:List gQ) (m o p:Int):Option Gs:=bJ (Gw i j l m o p 3) fun d=>bJ (q.q119 d.1.1 d.1.2.1 d.1.2.2.1 d.1.2.2.2.1 d.1.2.2.2.2.1 d.1.2.2.2.2.2.1) fun f=>bJ (WQ q bT d.2.1 f.1.1 f.1.2.1 f.1.2.2.2.1 f.1.2.2.2.2.1 f.1.2.2.2.2.2.1 f.1.2.2.1) fun s=>dR s (fun e=>bJ (rE e.2.2.1.1 e.2.2.1.2.1 e.2.2.2.1 e.2.2.1.2.2.1 e.2.2.1.2.2.2.1 e.2.2.1.2.2.2.2.1 e.1.1) fun g=>a6 ((g.1.1,(g.1.2.1,(g.1.2.2.1,(g.1.2.2.2.1,(g.1.2.2.2.2.1,(g.1.2.2.2.2.2.1,())))))),())) (fun u=>a7)
noncomputable def avq (q:jl):Env:=gY prog tt [] [(75,2,am4)] [(75,2,axR q)] [] [(33,Tq),(34,KR),(35,aa5),(38,Tt),(76,Tu),(119,apv q),(120,Yp)]
def ayX (q:jl) {d:Type} (a:aoo.den->Option d) (b:akI.den->Option d) (c:ak8.den->Option d) (v:aoo.den):Option d:=bA (afe q (bx a) (bx b) (c ((),((),()),()))) v
theorem aIW (q:jl):dX (avq q) 75 aEB (axR q):=mF (ayX q) (h2:=by intros;simp only[ayX,bx,bA,afe,dm,dn,bI,di,dw])
theorem aME (q:jl):dO (avq q) 75 b75:=pI [aEB] (aD (fM (aIW q)) aN)
theorem avr (q:jl) (H:H36 q):fK (avq q):=eB aN [75] (aD ⟨f75,b75,by kernel_rfl,by kernel_rfl,aME q⟩ aN) (hx:=(aD rU (aD lT (aD IA (aD rV (aD Ar (aD H.2.2.1 (aD zu aN))))))))
noncomputable def aGp:Code:=(f119.body).getD .skip
noncomputable def atP:Code:=cA (cA (cA (cB (cB (cB (aGp))))))
def awJ:fJ:=⟨[0,2,100004],[],[0,2],[],[],[]⟩
def acY:SQ:=⟨us fx 31,dy,bO⟩
def adB:SQ:=⟨us fx 31,dy,bO⟩
def aeb:SQ:=⟨us [] 34,dy,[]⟩
def UD (q:jl) {g:Type} (j l:Int->(List gJ)->bV->Int->Int->Int->(List gQ)->Option g) (x:Option g) (i:Int) (m:List gJ) (o:bV) (p s u:Int) (v:List gQ):Option g:=bJ (pU m o v p s u [124]) fun d=>cond d.2.1 (bJ (uK d.1.1 d.1.2.1 d.1.2.2.1 (cO .i64 d.1.2.2.2.1 1) d.1.2.2.2.2.1 d.1.2.2.2.2.2.1) fun e=>bJ (q.q163 e.1.1 e.1.2.1 e.1.2.2.1 e.1.2.2.2.1 e.1.2.2.2.2.1 e.1.2.2.2.2.2.1) fun f=>j i f.1.1 f.1.2.1 f.1.2.2.2.1 f.1.2.2.2.2.1 f.1.2.2.2.2.2.1 f.1.2.2.1)<|l i d.1.1 d.1.2.1 d.1.2.2.2.1 d.1.2.2.2.2.1 d.1.2.2.2.2.2.1 d.1.2.2.1
def EZ (q:jl):Nat->Int->(List gJ)->bV->Int->Int->Int->(List gQ)->Option (adB.den⊕aeb.den)
 |0,_,_,_,_,_,_,_=>a7
 |n+1,d,e,f,g,i,j,l=>UD q (EZ q n) (fun m o p s u v x=>a6 (.inl ((m,()),((),()),((o,p,s,u,v,()),x,())))) (a6 (.inr ((),((),()),()))) d e f g i j l
def aCy (q:jl) (n:Nat) (v:acY.den):=bA (EZ q n) v
noncomputable def anp (q:jl):dD:=fP awJ acY adB aeb (.exit 0) (aCy q bT) 6
def avR (q:jl) (l:List gJ) (m:bV) (o:List gQ) (p s u:Int):Option Gs:=bJ (Gw l m o p s u 4) fun i=>bJ (pU i.1.1 i.1.2.1 i.1.2.2.1 i.1.2.2.2.1 i.1.2.2.2.2.1 i.1.2.2.2.2.2.1 [33]) fun e=>cond e.2.1 (bJ (q.q163 e.1.1 e.1.2.1 e.1.2.2.1 (cO .i64 e.1.2.2.2.1 1) e.1.2.2.2.2.1 e.1.2.2.2.2.2.1) fun f=>bJ (EZ q bT i.2.1 f.1.1 f.1.2.1 f.1.2.2.2.1 f.1.2.2.2.2.1 f.1.2.2.2.2.2.1 f.1.2.2.1) fun j=>dR j (fun d=>bJ (rE d.2.2.1.1 d.2.2.1.2.1 d.2.2.2.1 d.2.2.1.2.2.1 d.2.2.1.2.2.2.1 d.2.2.1.2.2.2.2.1 d.1.1) fun g=>a6 ((g.1.1,(g.1.2.1,(g.1.2.2.1,(g.1.2.2.2.1,(g.1.2.2.2.2.1,(g.1.2.2.2.2.2.1,())))))),())) (fun b4=>a7))<|bJ (q.q163 e.1.1 e.1.2.1 e.1.2.2.1 e.1.2.2.2.1 e.1.2.2.2.2.1 e.1.2.2.2.2.2.1) fun f=>bJ (EZ q bT i.2.1 f.1.1 f.1.2.1 f.1.2.2.2.1 f.1.2.2.2.2.1 f.1.2.2.2.2.2.1 f.1.2.2.1) fun j=>dR j (fun d=>bJ (rE d.2.2.1.1 d.2.2.1.2.1 d.2.2.2.1 d.2.2.1.2.2.1 d.2.2.1.2.2.2.1 d.2.2.1.2.2.2.2.1 d.1.1) fun g=>a6 ((g.1.1,(g.1.2.1,(g.1.2.2.1,(g.1.2.2.2.1,(g.1.2.2.2.2.1,(g.1.2.2.2.2.2.1,())))))),())) (fun b4=>a7)
noncomputable def ai0 (q:jl):Env:=gY prog tt [] [(119,4,awJ)] [(119,4,anp q)] [] [(33,Tq),(34,KR),(38,Tt),(76,Tu),(163,apx q)]
def aoT (q:jl) {d:Type} (a:acY.den->Option d) (b:adB.den->Option d) (c:aeb.den->Option d) (v:acY.den):Option d:=bA (UD q (bx a) (bx b) (c ((),((),()),()))) v
theorem aDi (q:jl):dX (ai0 q) 119 atP (anp q):=mF (aoT q) (h2:=by intros;simp only[aoT,bx,bA,UD,dm,dn,bI,di,dw])
theorem aHv (q:jl):dO (ai0 q) 119 aGp:=pI [atP] (aD (fM (aDi q)) aN)
theorem aql (q:jl) (H:H36 q):fK (ai0 q):=eB aN [119] (aD ⟨f119,aGp,by kernel_rfl,by kernel_rfl,aHv q⟩ aN) (hx:=(aD rU (aD lT (aD rV (aD Ar (aD H.2.2.2.1 aN))))))
noncomputable def aiO:Code:=(f163.body).getD .skip
noncomputable def alX:Code:=cA (cA (cA (cB (cB (cB (cB (cB (aiO))))))))
noncomputable def Be:Code:=cB (cB (cB (aiO)))
def amY:fJ:=⟨[0,3,4,100016],[],[0,3],[],[],[]⟩
def BB:fJ:=⟨[0,900014],[],[],[],[],[]⟩
def TY:SQ:=⟨us [cz,.u,.u,bX,bX] 139,dy,bO⟩
def Xt:SQ:=⟨us fc 140,dy,bO⟩
def XB:SQ:=⟨us [] 144,dy,[]⟩
def O5 (q:jl) {j:Type} (l:Int->Int->(List gJ)->bV->Int->Int->Int->(List gQ)->Option j) (m:Int->(List gJ)->bV->Int->Int->Int->(List gQ)->Option j) (y:Option j) (g i:Int) (o:List gJ) (p:bV) (s u v:Int) (x:List gQ):Option j:=bJ (ZO o p x s u v) fun d=>cond d.2.1 (bJ (agF d.1.1 d.1.2.1 d.1.2.2.1 d.1.2.2.2.1 d.1.2.2.2.2.1 d.1.2.2.2.2.2.1) fun e=>l g i e.1.1 e.1.2.1 e.1.2.2.2.1 e.1.2.2.2.2.1 e.1.2.2.2.2.2.1 e.1.2.2.1)<|cond (iF d.1.2.2.2.1 (bK d.1.1)) (cond (gy d.1.1 d.1.2.2.2.1) (cond (bY (ed d.1.1 (0,([],(0,(0,())))) d.1.2.2.2.1).1 6) (cond (bY i 0) (cond (gy d.1.1 d.1.2.2.2.1) (bJ (ZW (ed d.1.1 (0,([],(0,(0,())))) d.1.2.2.2.1).2.1) fun e=>cond (iF 0 e.1) (bJ (P8 d.1.1 d.1.2.1 d.1.2.2.1 d.1.2.2.2.1 d.1.2.2.2.2.1 d.1.2.2.2.2.2.1 6) fun f=>l g i f.1.1 f.1.2.1 f.1.2.2.2.1 f.1.2.2.2.2.1 f.1.2.2.2.2.2.1 f.1.2.2.1)<|bJ (P8 d.1.1 d.1.2.1 d.1.2.2.1 d.1.2.2.2.1 d.1.2.2.2.2.1 d.1.2.2.2.2.2.1 7) fun f=>l g (cO .i64 i 1) f.1.1 f.1.2.1 f.1.2.2.2.1 f.1.2.2.2.2.1 f.1.2.2.2.2.2.1 f.1.2.2.1) a7)<|bJ (P8 d.1.1 d.1.2.1 d.1.2.2.1 d.1.2.2.2.1 d.1.2.2.2.2.1 d.1.2.2.2.2.2.1 7) fun e=>l g (cO .i64 i 1) e.1.1 e.1.2.1 e.1.2.2.2.1 e.1.2.2.2.2.1 e.1.2.2.2.2.2.1 e.1.2.2.1)<|m g d.1.1 d.1.2.1 d.1.2.2.2.1 d.1.2.2.2.2.1 d.1.2.2.2.2.2.1 d.1.2.2.1) a7)<|m g d.1.1 d.1.2.1 d.1.2.2.2.1 d.1.2.2.2.2.1 d.1.2.2.2.2.2.1 d.1.2.2.1
def D9 (q:jl):Nat->Int->Int->(List gJ)->bV->Int->Int->Int->(List gQ)->Option (Xt.den⊕XB.den)
 |0,_,_,_,_,_,_,_,_=>a7
 |n+1,d,e,f,g,i,j,l,m=>O5 q (D9 q n) (fun o p s u v x y=>a6 (.inl ((o,()),((),()),((p,s,u,v,x,()),y,())))) (a6 (.inr ((),((),()),()))) d e f g i j l m
def axr (q:jl) (n:Nat) (v:TY.den):=D9 q n v.1.1 v.1.2.1 v.2.2.1.1 v.2.2.1.2.1 v.2.2.1.2.2.1 v.2.2.1.2.2.2.1 v.2.2.1.2.2.2.2.1 v.2.2.2.1
noncomputable def ahl (q:jl):dD:=fP amY TY Xt XB (.exit 0) (axr q bT) 6
def HY:SQ:=⟨us b8 143,dy,bO⟩
def yG:SQ:=⟨us [] 144,dy,bO⟩
def yL:SQ:=⟨us [] 144,dy,[]⟩
def yQ (q:jl) {g:Type} (i:(List gJ)->bV->Int->Int->Int->(List gQ)->Option g) (j:Option g) (l:List gJ) (m:bV) (o p s:Int) (u:List gQ):Option g:=bJ (Gw l m u o p s 5) fun d=>bJ (D9 q bT d.2.1 0 d.1.1 d.1.2.1 d.1.2.2.2.1 d.1.2.2.2.2.1 d.1.2.2.2.2.2.1 d.1.2.2.1) fun v=>dR v (fun e=>bJ (rE e.2.2.1.1 e.2.2.1.2.1 e.2.2.2.1 e.2.2.1.2.2.1 e.2.2.1.2.2.2.1 e.2.2.1.2.2.2.2.1 e.1.1) fun f=>i f.1.1 f.1.2.1 f.1.2.2.2.1 f.1.2.2.2.2.1 f.1.2.2.2.2.2.1 f.1.2.2.1) (fun x=>j)
def oC (q:jl) (d:List gJ) (e:bV) (f g i:Int) (j:List gQ):Option (yG.den⊕yL.den):=yQ q (fun l m o p s u=>a6 (.inl ((),((),()),((l,m,o,p,s,()),u,())))) (a6 (.inr ((),((),()),()))) d e f g i j
noncomputable def Oy (q:jl):dD:=fP BB HY yG yL (.exit 999999) (fun v=>oC q v.2.2.1.1 v.2.2.1.2.1 v.2.2.1.2.2.1 v.2.2.1.2.2.2.1 v.2.2.1.2.2.2.2.1 v.2.2.2.1) 12
def IV (q:jl) (d:(taF×vJ)):Option Gs:=bJ (oC q d.1.1 d.1.2.1 d.1.2.2.2.1 d.1.2.2.2.2.1 d.1.2.2.2.2.2.1 d.1.2.2.1) fun f=>dR f (fun e=>a6 ((e.2.2.1.1,(e.2.2.1.2.1,(e.2.2.2.1,(e.2.2.1.2.2.1,(e.2.2.1.2.2.2.1,(e.2.2.1.2.2.2.2.1,())))))),())) (fun g=>a7)
def avS (q:jl) (s:List gJ) (u:bV) (v:List gQ) (x y z:Int):Option Gs:=bJ (awi s u v x y z) fun f=>cond (!f.2.1) (bJ (wV f.1.1 f.1.2.1 f.1.2.2.1 f.1.2.2.2.1 f.1.2.2.2.2.1 f.1.2.2.2.2.2.1) fun e=>a6 ((e.1.1,(e.1.2.1,(e.1.2.2.1,(e.1.2.2.2.1,(e.1.2.2.2.2.1,(e.1.2.2.2.2.2.1,())))))),()))<|bJ (V3 f.1.1 f.1.2.1 f.1.2.2.1 f.1.2.2.2.1 f.1.2.2.2.2.1 f.1.2.2.2.2.2.1) fun e=>cond e.2.1 (bJ (q.q214 e.1.1 e.1.2.1 e.1.2.2.1 e.1.2.2.2.1 e.1.2.2.2.2.1 e.1.2.2.2.2.2.1) fun d=>a6 ((d.1.1,(d.1.2.1,(d.1.2.2.1,(d.1.2.2.2.1,(d.1.2.2.2.2.1,(d.1.2.2.2.2.2.1,())))))),()))<|bJ (pU e.1.1 e.1.2.1 e.1.2.2.1 e.1.2.2.2.1 e.1.2.2.2.2.1 e.1.2.2.2.2.2.1 [120]) fun d=>cond d.2.1 (cond (iF (cO .i64 d.1.2.2.2.1 1) (bK d.1.2.1)) (cond (gy d.1.2.1 (cO .i64 d.1.2.2.2.1 1)) (cond (bY (cu d.1.2.1 (cO .i64 d.1.2.2.2.1 1)) 40) (cond (iF d.1.2.2.2.2.2.1 200) (cond (gy d.1.1 d.1.2.2.2.1) (bJ (V9 (ed d.1.1 (0,([],(0,(0,())))) d.1.2.2.2.1).2.1) fun A=>cond A.1 (bJ (Gw d.1.1 d.1.2.1 d.1.2.2.1 d.1.2.2.2.1 d.1.2.2.2.2.1 d.1.2.2.2.2.2.1 16) fun l=>bJ (P8 l.1.1 l.1.2.1 l.1.2.2.1 l.1.2.2.2.1 l.1.2.2.2.2.1 l.1.2.2.2.2.2.1 7) fun m=>bJ (oJ m.1.1 m.1.2.1 m.1.2.2.1 (cO .i64 m.1.2.2.2.1 1) m.1.2.2.2.2.1 m.1.2.2.2.2.2.1 [41]) fun o=>bJ (uK o.1.1 o.1.2.1 o.1.2.2.1 o.1.2.2.2.1 o.1.2.2.2.2.1 o.1.2.2.2.2.2.1) fun p=>bJ (V3 p.1.1 p.1.2.1 p.1.2.2.1 p.1.2.2.2.1 p.1.2.2.2.2.1 p.1.2.2.2.2.2.1) fun g=>cond g.2.1 (bJ (q.q214 g.1.1 g.1.2.1 g.1.2.2.1 g.1.2.2.2.1 g.1.2.2.2.2.1 g.1.2.2.2.2.2.1) fun i=>bJ (rE i.1.1 i.1.2.1 i.1.2.2.1 i.1.2.2.2.1 i.1.2.2.2.2.1 i.1.2.2.2.2.2.1 l.2.1) fun j=>a6 ((j.1.1,(j.1.2.1,(j.1.2.2.1,(j.1.2.2.2.1,(j.1.2.2.2.2.1,(j.1.2.2.2.2.2.1,())))))),()))<|bJ (wV g.1.1 g.1.2.1 g.1.2.2.1 g.1.2.2.2.1 g.1.2.2.2.2.1 g.1.2.2.2.2.2.1) fun i=>bJ (rE i.1.1 i.1.2.1 i.1.2.2.1 i.1.2.2.2.1 i.1.2.2.2.2.1 i.1.2.2.2.2.2.1 l.2.1) fun j=>a6 ((j.1.1,(j.1.2.1,(j.1.2.2.1,(j.1.2.2.2.1,(j.1.2.2.2.2.1,(j.1.2.2.2.2.2.1,())))))),()))<|IV q d) a7)<|IV q d)<|IV q d) a7)<|IV q d)<|IV q d
noncomputable def Lr (q:jl):Env:=gY prog tt [(215,Yq),(218,azP)] [(163,16,amY),(163,800014,BB)] [(163,16,ahl q),(163,800014,Oy q)] [] [(33,Tq),(34,KR),(37,apM),(38,Tt),(74,aFK),(76,Tu),(117,alA),(118,azu),(120,Yp),(214,apz q),(216,Yr),(217,alI)]
def ah5 (q:jl) {d:Type} (a:TY.den->Option d) (b:Xt.den->Option d) (c:XB.den->Option d) (v:TY.den):Option d:=O5 q (fun e f g i j l m o=>a ((e,f,()),((),()),((g,i,j,l,m,()),o,()))) (bx b) (c ((),((),()),())) v.1.1 v.1.2.1 v.2.2.1.1 v.2.2.1.2.1 v.2.2.1.2.2.1 v.2.2.1.2.2.2.1 v.2.2.1.2.2.2.2.1 v.2.2.2.1
theorem ax7 (q:jl):dX (Lr q) 163 alX (ahl q):=mF (ah5 q) (h2:=by intros;simp only[ah5,bx,O5,dm,dn,bI,di,dw])
theorem Yl (q:jl) {R:Type} (d:Nat) (K:Ex->St->Option R) (e:List gJ) (f:bV) (g i j:Int) (l:List gQ):
  iter (a6 BB) (zH (xx (Lr q) (d+12) 163 Be)) 1 (jR HY ((),((),()),((e,f,g,i,j,()),l,()))) K=
   yQ q (fun m o e2 p s u=>K (.exit 999999) (jR yG ((),((),()),((m,o,e2,p,s,()),u,())))) (K .ret (jR yL ((),((),()),()))) e f g i j l:=by kernel_rfl
theorem acr (q:jl) {R:Type} (d:Nat) (K:Ex->St->Option R) (e:List gJ) (f:bV) (g i j:Int) (l:List gQ):
  iter (a6 BB) (zH (xx (Lr q) (d+12) 163 Be)) 1 (jR HY ((),((),()),((e,f,g,i,j,()),l,()))) K=bJ (oC q e f g i j l) fun o=>dR o (fun a=>K (.exit 999999) (jR yG a)) fun b=>K .ret (jR yL b):=by
  rw[Yl];simp only[oC,yQ,dm,dn,bI,di,dw]
  try simp only[dR]
theorem acN (q:jl):tH (Lr q) 163 Be (Oy q):=PO (by kernel_rfl) fun R d K v o h=>⟨1,(acr q d K (v.2.2.1.1) (v.2.2.1.2.1) (v.2.2.1.2.2.1) (v.2.2.1.2.2.2.1) (v.2.2.1.2.2.2.2.1) (v.2.2.2.1)).trans (congrArg (fun o=>bJ o _) h)⟩
theorem aHj:jF aiO=[alX]:=by kernel_rfl
theorem aGE (q:jl):D7 (Lr q) 163 aiO=[Be]:=by kernel_rfl
theorem aHD (q:jl):dO (Lr q) 163 aiO:=wY aiO (fun x _ d=>absurd (show false=true from d) (by decide)) (by rw[aHj];exact(aD (fM (ax7 q)) aN)) (yf (by rw[aGE];exact(aD (fC (by kernel_rfl) (acN q)) aN)))
theorem aqw (q:jl) (H:H36 q):fK (Lr q):=eB (aD JS (aD asW aN)) [163] (aD ⟨f163,aiO,by kernel_rfl,by kernel_rfl,aHD q⟩ aN) (hx:=(aD rU (aD lT (aD Pv (aD rV (aD aip (aD Ar (aD QX (aD aaM (aD zu (aD H.2.2.2.2.2.2.1 (aD JU (aD aaZ aN)))))))))))))
def avT (q:jl) (g:List gJ) (i:bV) (j:List gQ) (l m o:Int):Option Gs:=bJ (uK g i j l m o) fun f=>bJ (Tz f.1.1 f.1.2.1 f.1.2.2.1 f.1.2.2.2.1 f.1.2.2.2.2.1 f.1.2.2.2.2.2.1) fun d=>cond d.2.1 (bJ (q.q36 d.1.1 d.1.2.1 d.1.2.2.1 d.1.2.2.2.1 d.1.2.2.2.2.1 d.1.2.2.2.2.2.1) fun e=>a6 ((e.1.1,(e.1.2.1,(e.1.2.2.1,(e.1.2.2.2.1,(e.1.2.2.2.2.1,(e.1.2.2.2.2.2.1,())))))),()))<|bJ (wV d.1.1 d.1.2.1 d.1.2.2.1 d.1.2.2.2.1 d.1.2.2.2.2.1 d.1.2.2.2.2.2.1) fun e=>a6 ((e.1.1,(e.1.2.1,(e.1.2.2.1,(e.1.2.2.2.1,(e.1.2.2.2.2.1,(e.1.2.2.2.2.2.1,())))))),())
noncomputable def aGL (q:jl):Env:=gY prog tt [] [] [] [] [(35,aa5),(36,alK q),(76,Tu),(120,Yp)]
theorem aqN (q:jl) (H:H36 q):fK (aGL q):=eB aN [] aN (hx:=(aD IA (aD H.1 (aD Ar (aD zu aN)))))
def avU (q:jl) (g:List gJ) (i:bV) (j:List gQ) (l m o:Int):Option Gs:=bJ (oJ g i j l m o [100]) fun d=>bJ (q.q246 d.1.1 d.1.2.1 d.1.2.2.1 d.1.2.2.2.1 d.1.2.2.2.2.1 d.1.2.2.2.2.2.1) fun e=>bJ (oJ e.1.1 e.1.2.1 e.1.2.2.1 e.1.2.2.2.1 e.1.2.2.2.2.1 e.1.2.2.2.2.2.1 [103]) fun f=>a6 ((f.1.1,(f.1.2.1,(f.1.2.2.1,(f.1.2.2.2.1,(f.1.2.2.2.2.1,(f.1.2.2.2.2.2.1,())))))),())
noncomputable def aGM (q:jl):Env:=gY prog tt [] [] [] [] [(216,Yr),(246,aft q)]
theorem aqO (q:jl) (H:H36 q):fK (aGM q):=eB aN [] aN (hx:=(aD JU (aD H.2.2.2.2.1 aN)))
noncomputable def atz:Code:=(f214.body).getD .skip
noncomputable def aud:Code:=cA (cA (cB (cA (cB (cB (atz))))))
noncomputable def al0:Code:=cA (cA (cA (cB (cB (cB (cA (cB (cB (cB (cB (cB (cA (cB (cA (cB (cB (cB (cB (cB (atz))))))))))))))))))))
noncomputable def al1:Code:=cA (cA (cA (cB (cB (cB (cB (cB (cB (atz)))))))))
def awW:fJ:=⟨[0,2,3,4,100003],[],[0,3],[],[],[]⟩
def am1:fJ:=⟨[0,5,100020],[],[0,5],[],[],[]⟩
def am2:fJ:=⟨[0,5,100036],[],[0,5],[],[],[]⟩
def ade:SQ:=⟨us [cz,.u,c9,bX,bX] 103,dy,bO⟩
def adP:SQ:=⟨us fc 104,dy,bO⟩
def aep:SQ:=⟨us [] 108,dy,[]⟩
def ae2 (q:jl) {e:Type} (p:Int->Int->Int->(List gJ)->bV->Int->Int->Int->(List gQ)->Option e) (u:Int->(List gJ)->bV->Int->Int->Int->(List gQ)->Option e) (v:Option e) (f s d:Int) (g:List gJ) (i:bV) (j l m:Int) (o:List gQ):Option e:=cond (iF d 6) (cond (gy [123,40,105,119,114,99] d) (cond (bY (cu [123,40,105,119,114,99] d) f) (p f (cO .i64 9 d) (cO .i64 d 1) g i j l m o)<|p f s (cO .i64 d 1) g i j l m o) a7)<|u s g i j l m o
def yl (q:jl):Nat->Int->Int->Int->(List gJ)->bV->Int->Int->Int->(List gQ)->Option (adP.den⊕aep.den)
 |0,_,_,_,_,_,_,_,_,_=>a7
 |n+1,d,e,f,g,i,j,l,m,o=>ae2 q (yl q n) (fun p s u v x y z=>a6 (.inl ((p,()),((),()),((s,u,v,x,y,()),z,())))) (a6 (.inr ((),((),()),()))) d e f g i j l m o
def aCN (q:jl) (n:Nat) (v:ade.den):=yl q n v.1.1 v.1.2.1 v.1.2.2.1 v.2.2.1.1 v.2.2.1.2.1 v.2.2.1.2.2.1 v.2.2.1.2.2.2.1 v.2.2.1.2.2.2.2.1 v.2.2.2.1
noncomputable def anG (q:jl):dD:=fP awW ade adP aep (.exit 0) (aCN q bT) 6
def Uc:SQ:=⟨d7,dy,bO⟩
def OH:SQ:=⟨d7,dy,bO⟩
def OL:SQ:=⟨us [] 108,dy,[]⟩
def O8 (q:jl) {f:Type} (i j:Int->(List gJ)->bV->Int->Int->Int->(List gQ)->Option f) (v:Option f) (g:Int) (l:List gJ) (m:bV) (o p s:Int) (u:List gQ):Option f:=bJ (ZO l m u o p s) fun d=>cond d.2.1 (bJ (agF d.1.1 d.1.2.1 d.1.2.2.1 d.1.2.2.2.1 d.1.2.2.2.2.1 d.1.2.2.2.2.2.1) fun e=>i g e.1.1 e.1.2.1 e.1.2.2.2.1 e.1.2.2.2.2.1 e.1.2.2.2.2.2.1 e.1.2.2.1)<|j g d.1.1 d.1.2.1 d.1.2.2.2.1 d.1.2.2.2.2.1 d.1.2.2.2.2.2.1 d.1.2.2.1
def jG (q:jl):Nat->Int->(List gJ)->bV->Int->Int->Int->(List gQ)->Option (OH.den⊕OL.den)
 |0,_,_,_,_,_,_,_=>a7
 |n+1,d,e,f,g,i,j,l=>O8 q (jG q n) (fun m o p s u v x=>a6 (.inl ((m,()),((),()),((o,p,s,u,v,()),x,())))) (a6 (.inr ((),((),()),()))) d e f g i j l
def axv (q:jl) (n:Nat) (v:Uc.den):=bA (jG q n) v
noncomputable def ahp (q:jl):dD:=fP am2 Uc OH OL (.exit 5) (axv q bT) 12
def Ub:SQ:=⟨d7,dy,bO⟩
def Xw:SQ:=⟨d7,dy,bO⟩
def XE:SQ:=⟨us [] 108,dy,[]⟩
def O7 (q:jl) {i:Type} (l m:Int->(List gJ)->bV->Int->Int->Int->(List gQ)->Option i) (y:Option i) (j:Int) (o:List gJ) (p:bV) (s u v:Int) (x:List gQ):Option i:=bJ (pU o p x s u v [101]) fun d=>cond d.2.1 (bJ (q.q246 d.1.1 d.1.2.1 d.1.2.2.1 (cO .i64 d.1.2.2.2.1 1) d.1.2.2.2.2.1 d.1.2.2.2.2.2.1) fun e=>bJ (oJ e.1.1 e.1.2.1 e.1.2.2.1 e.1.2.2.2.1 e.1.2.2.2.2.1 e.1.2.2.2.2.2.1 [116]) fun f=>bJ (q.q246 f.1.1 f.1.2.1 f.1.2.2.1 f.1.2.2.2.1 f.1.2.2.2.2.1 f.1.2.2.2.2.2.1) fun g=>l j g.1.1 g.1.2.1 g.1.2.2.2.1 g.1.2.2.2.2.1 g.1.2.2.2.2.2.1 g.1.2.2.1)<|m j d.1.1 d.1.2.1 d.1.2.2.2.1 d.1.2.2.2.2.1 d.1.2.2.2.2.2.1 d.1.2.2.1
def Eb (q:jl):Nat->Int->(List gJ)->bV->Int->Int->Int->(List gQ)->Option (Xw.den⊕XE.den)
 |0,_,_,_,_,_,_,_=>a7
 |n+1,d,e,f,g,i,j,l=>O7 q (Eb q n) (fun m o p s u v x=>a6 (.inl ((m,()),((),()),((o,p,s,u,v,()),x,())))) (a6 (.inr ((),((),()),()))) d e f g i j l
def axu (q:jl) (n:Nat) (v:Ub.den):=bA (Eb q n) v
noncomputable def aho (q:jl):dD:=fP am1 Ub Xw XE (.exit 3) (axu q bT) 18
def pG (f:OH.den⊕OL.den):Option Gs:=dR f (fun d=>bJ (rE d.2.2.1.1 d.2.2.1.2.1 d.2.2.2.1 d.2.2.1.2.2.1 d.2.2.1.2.2.2.1 d.2.2.1.2.2.2.2.1 d.1.1) fun e=>a6 ((e.1.1,(e.1.2.1,(e.1.2.2.1,(e.1.2.2.2.1,(e.1.2.2.2.2.1,(e.1.2.2.2.2.2.1,())))))),())) (fun g=>a7)
def DV (q:jl) (u:List gJ) (p:bV) (v:List gQ) (s x y:Int):Option Gs:=cond (gy p s) (bJ (yl q bT (cu p s) 9 0 u p s x y v) fun z=>dR z (fun g=>bJ (Gw g.2.2.1.1 g.2.2.1.2.1 g.2.2.2.1 g.2.2.1.2.2.1 g.2.2.1.2.2.2.1 g.2.2.1.2.2.2.2.1 g.1.1) fun d=>cond (bY g.1.1 9) (bJ (q.q246 d.1.1 d.1.2.1 d.1.2.2.1 (cO .i64 d.1.2.2.2.1 1) d.1.2.2.2.2.1 d.1.2.2.2.2.2.1) fun e=>bJ (oJ e.1.1 e.1.2.1 e.1.2.2.1 e.1.2.2.2.1 e.1.2.2.2.2.1 e.1.2.2.2.2.2.1 [125]) fun f=>bJ (jG q bT d.2.1 f.1.1 f.1.2.1 f.1.2.2.2.1 f.1.2.2.2.2.1 f.1.2.2.2.2.2.1 f.1.2.2.1) fun l=>pG l)<|cond (bY g.1.1 10) (bJ (q.q246 d.1.1 d.1.2.1 d.1.2.2.1 (cO .i64 d.1.2.2.2.1 1) d.1.2.2.2.2.1 d.1.2.2.2.2.2.1) fun e=>bJ (oJ e.1.1 e.1.2.1 e.1.2.2.1 e.1.2.2.2.1 e.1.2.2.2.2.1 e.1.2.2.2.2.2.1 [41]) fun f=>bJ (jG q bT d.2.1 f.1.1 f.1.2.1 f.1.2.2.2.1 f.1.2.2.2.2.1 f.1.2.2.2.2.2.1 f.1.2.2.1) fun l=>pG l)<|cond (bY g.1.1 11) (bJ (q.q246 d.1.1 d.1.2.1 d.1.2.2.1 (cO .i64 d.1.2.2.2.1 1) d.1.2.2.2.2.1 d.1.2.2.2.2.2.1) fun e=>bJ (oJ e.1.1 e.1.2.1 e.1.2.2.1 e.1.2.2.2.1 e.1.2.2.2.2.1 e.1.2.2.2.2.2.1 [116]) fun f=>bJ (q.q246 f.1.1 f.1.2.1 f.1.2.2.1 f.1.2.2.2.1 f.1.2.2.2.2.1 f.1.2.2.2.2.2.1) fun l=>bJ (Eb q bT d.2.1 l.1.1 l.1.2.1 l.1.2.2.2.1 l.1.2.2.2.2.1 l.1.2.2.2.2.2.1 l.1.2.2.1) fun A=>dR A (fun m=>bJ (pU m.2.2.1.1 m.2.2.1.2.1 m.2.2.2.1 m.2.2.1.2.2.1 m.2.2.1.2.2.2.1 m.2.2.1.2.2.2.2.1 [108]) fun i=>cond i.2.1 (bJ (q.q246 i.1.1 i.1.2.1 i.1.2.2.1 (cO .i64 i.1.2.2.2.1 1) i.1.2.2.2.2.1 i.1.2.2.2.2.2.1) fun j=>bJ (oJ j.1.1 j.1.2.1 j.1.2.2.1 j.1.2.2.2.1 j.1.2.2.2.2.1 j.1.2.2.2.2.2.1 [102]) fun o=>bJ (jG q bT m.1.1 o.1.1 o.1.2.1 o.1.2.2.2.1 o.1.2.2.2.2.1 o.1.2.2.2.2.2.1 o.1.2.2.1) fun B=>pG B)<|bJ (oJ i.1.1 i.1.2.1 i.1.2.2.1 i.1.2.2.2.1 i.1.2.2.2.2.1 i.1.2.2.2.2.2.1 [102]) fun j=>bJ (jG q bT m.1.1 j.1.1 j.1.2.1 j.1.2.2.2.1 j.1.2.2.2.2.1 j.1.2.2.2.2.2.1 j.1.2.2.1) fun o=>pG o) (fun D=>a7))<|cond (bY g.1.1 12) (bJ (q.q246 d.1.1 d.1.2.1 d.1.2.2.1 (cO .i64 d.1.2.2.2.1 1) d.1.2.2.2.2.1 d.1.2.2.2.2.2.1) fun e=>bJ (q.q247 e.1.1 e.1.2.1 e.1.2.2.1 e.1.2.2.2.1 e.1.2.2.2.2.1 e.1.2.2.2.2.2.1) fun f=>bJ (jG q bT d.2.1 f.1.1 f.1.2.1 f.1.2.2.2.1 f.1.2.2.2.2.1 f.1.2.2.2.2.2.1 f.1.2.2.1) fun l=>pG l)<|cond (bY g.1.1 13) (bJ (q.q248 d.1.1 d.1.2.1 d.1.2.2.1 (cO .i64 d.1.2.2.2.1 1) d.1.2.2.2.2.1 d.1.2.2.2.2.2.1) fun e=>bJ (jG q bT d.2.1 e.1.1 e.1.2.1 e.1.2.2.2.1 e.1.2.2.2.2.1 e.1.2.2.2.2.2.1 e.1.2.2.1) fun f=>pG f)<|cond (bY g.1.1 14) (bJ (q.q249 d.1.1 d.1.2.1 d.1.2.2.1 (cO .i64 d.1.2.2.2.1 1) d.1.2.2.2.2.1 d.1.2.2.2.2.2.1) fun e=>bJ (jG q bT d.2.1 e.1.1 e.1.2.1 e.1.2.2.2.1 e.1.2.2.2.2.1 e.1.2.2.2.2.2.1 e.1.2.2.1) fun f=>pG f)<|bJ (jG q bT d.2.1 d.1.1 d.1.2.1 (cO .i64 d.1.2.2.2.1 1) d.1.2.2.2.2.1 d.1.2.2.2.2.2.1 d.1.2.2.1) fun e=>pG e) (fun E=>a7)) a7
noncomputable def VO (q:jl):Env:=gY prog tt [] [(214,3,awW),(214,20,am1),(214,36,am2)] [(214,3,anG q),(214,36,ahp q),(214,20,aho q)] [] [(33,Tq),(34,KR),(38,Tt),(117,alA),(216,Yr),(217,alI),(246,aft q),(247,afu q),(248,apC q),(249,apD q)]
def ao8 (q:jl) {d:Type} (a:ade.den->Option d) (b:adP.den->Option d) (c:aep.den->Option d) (v:ade.den):Option d:=ae2 q (fun e f g i j l m o p=>a ((e,f,g,()),((),()),((i,j,l,m,o,()),p,()))) (bx b) (c ((),((),()),())) v.1.1 v.1.2.1 v.1.2.2.1 v.2.2.1.1 v.2.2.1.2.1 v.2.2.1.2.2.1 v.2.2.1.2.2.2.1 v.2.2.1.2.2.2.2.1 v.2.2.2.1
theorem aDx (q:jl):dX (VO q) 214 aud (anG q):=mF (ao8 q) (h2:=by intros;simp only[ao8,bx,ae2,dm,dn,bI,di,dw])
def ah9 (q:jl) {d:Type} (a:Uc.den->Option d) (b:OH.den->Option d) (c:OL.den->Option d) (v:Uc.den):Option d:=bA (O8 q (bx a) (bx b) (c ((),((),()),()))) v
theorem ayb (q:jl):dX (VO q) 214 al1 (ahp q):=mF (ah9 q) (h2:=by intros;simp only[ah9,bx,bA,O8,dm,dn,bI,di,dw])
def ah8 (q:jl) {d:Type} (a:Ub.den->Option d) (b:Xw.den->Option d) (c:XE.den->Option d) (v:Ub.den):Option d:=bA (O7 q (bx a) (bx b) (c ((),((),()),()))) v
theorem aya (q:jl):dX (VO q) 214 al0 (aho q):=mF (ah8 q) (h2:=by intros;simp only[ah8,bx,bA,O7,dm,dn,bI,di,dw])
theorem aHN (q:jl):dO (VO q) 214 atz:=pI [aud,al0,al1] (aD (fM (aDx q)) (aD (fM (aya q)) (aD (fM (ayb q)) aN)))
theorem aqH (q:jl) (H:H36 q):fK (VO q):=eB aN [214] (aD ⟨f214,atz,by kernel_rfl,by kernel_rfl,aHN q⟩ aN) (hx:=(aD rU (aD lT (aD rV (aD QX (aD JU (aD aaZ (aD H.2.2.2.2.1 (aD H.2.2.2.2.2.1 (aD H.2.2.2.2.2.2.2.1 (aD H.2.2.2.2.2.2.2.2 aN)))))))))))
noncomputable def aGu:Code:=(f248.body).getD .skip
noncomputable def aui:Code:=cA (cA (cA (cB (cA (cB (cB (cB (cB (cA (cB (aGu)))))))))))
def aw0:fJ:=⟨[0,100009],[],[0],[],[],[]⟩
def adk:SQ:=⟨us b8 112,dy,bO⟩
def adU:SQ:=⟨us b8 112,dy,bO⟩
def aeu:SQ:=⟨us [] 113,dy,[]⟩
def UV (q:jl) {g:Type} (p o:(List gJ)->bV->Int->Int->Int->(List gQ)->Option g) (s:Option g) (d:List gJ) (i:bV) (e j l:Int) (m:List gQ):Option g:=cond (iF e (bK d)) (cond (gy d e) (cond (bY (ed d (0,([],(0,(0,())))) e).1 6) (bJ (P8 d i m e j l 7) fun f=>p f.1.1 f.1.2.1 f.1.2.2.2.1 f.1.2.2.2.2.1 f.1.2.2.2.2.2.1 f.1.2.2.1)<|o d i e j l m) a7)<|o d i e j l m
def Jl (q:jl):Nat->(List gJ)->bV->Int->Int->Int->(List gQ)->Option (adU.den⊕aeu.den)
 |0,_,_,_,_,_,_=>a7
 |n+1,d,e,f,g,i,j=>UV q (Jl q n) (fun l m o p s u=>a6 (.inl ((),((),()),((l,m,o,p,s,()),u,())))) (a6 (.inr ((),((),()),()))) d e f g i j
def aCS (q:jl) (n:Nat) (v:adk.den):=Jl q n v.2.2.1.1 v.2.2.1.2.1 v.2.2.1.2.2.1 v.2.2.1.2.2.2.1 v.2.2.1.2.2.2.2.1 v.2.2.2.1
noncomputable def anL (q:jl):dD:=fP aw0 adk adU aeu (.exit 0) (aCS q bT) 6
def NC (m:Gs) (q:jl):Option Gs:=bJ (pU m.1.1 m.1.2.1 m.1.2.2.1 m.1.2.2.2.1 m.1.2.2.2.2.1 m.1.2.2.2.2.2.1 [59]) fun g=>cond g.2.1 (bJ (uK g.1.1 g.1.2.1 g.1.2.2.1 (cO .i64 g.1.2.2.2.1 1) g.1.2.2.2.2.1 g.1.2.2.2.2.2.1) fun i=>bJ (q.q247 i.1.1 i.1.2.1 i.1.2.2.1 i.1.2.2.2.1 i.1.2.2.2.2.1 i.1.2.2.2.2.2.1) fun d=>a6 ((d.1.1,(d.1.2.1,(d.1.2.2.1,(d.1.2.2.2.1,(d.1.2.2.2.2.1,(d.1.2.2.2.2.2.1,())))))),()))<|bJ (uK g.1.1 g.1.2.1 g.1.2.2.1 g.1.2.2.2.1 g.1.2.2.2.2.1 g.1.2.2.2.2.2.1) fun i=>bJ (pU i.1.1 i.1.2.1 i.1.2.2.1 i.1.2.2.2.1 i.1.2.2.2.2.1 i.1.2.2.2.2.2.1 [107]) fun d=>cond d.2.1 (bJ (Jl q bT d.1.1 d.1.2.1 (cO .i64 d.1.2.2.2.1 1) d.1.2.2.2.2.1 d.1.2.2.2.2.2.1 d.1.2.2.1) fun l=>dR l (fun o=>bJ (pU o.2.2.1.1 o.2.2.1.2.1 o.2.2.2.1 o.2.2.1.2.2.1 o.2.2.1.2.2.2.1 o.2.2.1.2.2.2.2.1 [59]) fun j=>cond j.2.1 (bJ (uK j.1.1 j.1.2.1 j.1.2.2.1 (cO .i64 j.1.2.2.2.1 1) j.1.2.2.2.2.1 j.1.2.2.2.2.2.1) fun e=>bJ (q.q247 e.1.1 e.1.2.1 e.1.2.2.1 e.1.2.2.2.1 e.1.2.2.2.2.1 e.1.2.2.2.2.2.1) fun f=>a6 ((f.1.1,(f.1.2.1,(f.1.2.2.1,(f.1.2.2.2.1,(f.1.2.2.2.2.1,(f.1.2.2.2.2.2.1,())))))),()))<|bJ (uK j.1.1 j.1.2.1 j.1.2.2.1 j.1.2.2.2.1 j.1.2.2.2.2.1 j.1.2.2.2.2.2.1) fun e=>cond (bY e.2.1 0) (bJ (wV e.1.1 e.1.2.1 e.1.2.2.1 e.1.2.2.2.1 e.1.2.2.2.2.1 e.1.2.2.2.2.2.1) fun f=>bJ (q.q247 f.1.1 f.1.2.1 f.1.2.2.1 f.1.2.2.2.1 f.1.2.2.2.2.1 f.1.2.2.2.2.2.1) fun p=>a6 ((p.1.1,(p.1.2.1,(p.1.2.2.1,(p.1.2.2.2.1,(p.1.2.2.2.2.1,(p.1.2.2.2.2.2.1,())))))),()))<|bJ (q.q247 e.1.1 e.1.2.1 e.1.2.2.1 e.1.2.2.2.1 e.1.2.2.2.2.1 e.1.2.2.2.2.2.1) fun f=>a6 ((f.1.1,(f.1.2.1,(f.1.2.2.1,(f.1.2.2.2.1,(f.1.2.2.2.2.1,(f.1.2.2.2.2.2.1,())))))),())) (fun s=>a7))<|bJ (q.q247 d.1.1 d.1.2.1 d.1.2.2.1 d.1.2.2.2.1 d.1.2.2.2.2.1 d.1.2.2.2.2.2.1) fun l=>a6 ((l.1.1,(l.1.2.1,(l.1.2.2.1,(l.1.2.2.2.1,(l.1.2.2.2.2.1,(l.1.2.2.2.2.2.1,())))))),())
def avV (q:jl) (d:List gJ) (g:bV) (i:List gQ) (e j l:Int):Option Gs:=cond (iF e (bK d)) (cond (gy d e) (cond (bY (ed d (0,([],(0,(0,())))) e).1 6) (cond (gy d e) (bJ (V9 (ed d (0,([],(0,(0,())))) e).2.1) fun f=>cond f.1 (bJ (P8 d g i e j l 7) fun m=>NC m q)<|bJ (wV d g i e j l) fun m=>NC m q) a7)<|bJ (wV d g i e j l) fun f=>NC f q) a7)<|bJ (wV d g i e j l) fun f=>NC f q
noncomputable def ajh (q:jl):Env:=gY prog tt [(215,Yq)] [(248,9,aw0)] [(248,9,anL q)] [] [(34,KR),(37,apM),(76,Tu),(120,Yp),(247,afu q)]
def apd (q:jl) {d:Type} (a:adk.den->Option d) (b:adU.den->Option d) (c:aeu.den->Option d) (v:adk.den):Option d:=UV q (fun e f g i j l=>a ((),((),()),((e,f,g,i,j,()),l,()))) (fun m o p s u x=>b ((),((),()),((m,o,p,s,u,()),x,()))) (c ((),((),()),())) v.2.2.1.1 v.2.2.1.2.1 v.2.2.1.2.2.1 v.2.2.1.2.2.2.1 v.2.2.1.2.2.2.2.1 v.2.2.2.1
theorem aDC (q:jl):dX (ajh q) 248 aui (anL q):=mF (apd q) (h2:=by intros;simp only[apd,UV,dm,dn,bI,di,dw])
theorem aHS (q:jl):dO (ajh q) 248 aGu:=pI [aui] (aD (fM (aDC q)) aN)
theorem aqP (q:jl) (H:H36 q):fK (ajh q):=eB (aD JS aN) [248] (aD ⟨f248,aGu,by kernel_rfl,by kernel_rfl,aHS q⟩ aN) (hx:=(aD lT (aD Pv (aD Ar (aD zu (aD H.2.2.2.2.2.1 aN))))))
noncomputable def aBb:Code:=(f249.body).getD .skip
noncomputable def al2:Code:=cA (cA (cA (cB (cB (cB (cA (cB (cA (cA (cA (cB (cB (cB (cB (cB (aBb))))))))))))))))
noncomputable def auj:Code:=cA (cA (cA (cB (cB (cB (cB (cB (aBb))))))))
def am3:fJ:=⟨[0,3,100010],[],[0,3],[],[],[]⟩
def aw1:fJ:=⟨[0,2,100005],[],[0],[],[],[]⟩
def Ud:SQ:=⟨us fc 96,dy,bO⟩
def Xx:SQ:=⟨us fc 96,dy,bO⟩
def XF:SQ:=⟨us [] 100,dy,[]⟩
def O9 (q:jl) {f:Type} (i j:Int->(List gJ)->bV->Int->Int->Int->(List gQ)->Option f) (v:Option f) (g:Int) (l:List gJ) (m:bV) (o p s:Int) (u:List gQ):Option f:=bJ (pU l m u o p s [124]) fun d=>cond d.2.1 (bJ (zO d.1.1 d.1.2.1 d.1.2.2.1 (cO .i64 d.1.2.2.2.1 1) d.1.2.2.2.2.1 d.1.2.2.2.2.2.1) fun e=>i g e.1.1 e.1.2.1 e.1.2.2.2.1 e.1.2.2.2.2.1 e.1.2.2.2.2.2.1 e.1.2.2.1)<|j g d.1.1 d.1.2.1 d.1.2.2.2.1 d.1.2.2.2.2.1 d.1.2.2.2.2.2.1 d.1.2.2.1
def wZ (q:jl):Nat->Int->(List gJ)->bV->Int->Int->Int->(List gQ)->Option (Xx.den⊕XF.den)
 |0,_,_,_,_,_,_,_=>a7
 |n+1,d,e,f,g,i,j,l=>O9 q (wZ q n) (fun m o p s u v x=>a6 (.inl ((m,()),((),()),((o,p,s,u,v,()),x,())))) (a6 (.inr ((),((),()),()))) d e f g i j l
def axw (q:jl) (n:Nat) (v:Ud.den):=bA (wZ q n) v
noncomputable def ahq (q:jl):dD:=fP am3 Ud Xx XF (.exit 2) (axw q bT) 6
def adl:SQ:=⟨us [cz,.u,cf] 97,dy,bO⟩
def adV:SQ:=⟨us b8 99,dy,bO⟩
def aev:SQ:=⟨us [] 100,dy,[]⟩
def vz {s:Type} (q:jl) (u:(taF×AQ)) (j:Gs) (p:Bool->(List gJ)->bV->Int->Int->Int->(List gQ)->Option s) (v:Option s):Option s:=bJ (wZ q bT u.2.1 j.1.1 j.1.2.1 j.1.2.2.2.1 j.1.2.2.2.2.1 j.1.2.2.2.2.2.1 j.1.2.2.1) fun x=>dR x (fun i=>bJ (oJ i.2.2.1.1 i.2.2.1.2.1 i.2.2.2.1 i.2.2.1.2.2.1 i.2.2.1.2.2.2.1 i.2.2.1.2.2.2.2.1 [41]) fun l=>bJ (uK l.1.1 l.1.2.1 l.1.2.2.1 l.1.2.2.2.1 l.1.2.2.2.2.1 l.1.2.2.2.2.2.1) fun m=>bJ (Tz m.1.1 m.1.2.1 m.1.2.2.1 m.1.2.2.2.1 m.1.2.2.2.2.1 m.1.2.2.2.2.2.1) fun f=>cond f.2.1 (bJ (q.q36 f.1.1 f.1.2.1 f.1.2.2.1 f.1.2.2.2.1 f.1.2.2.2.2.1 f.1.2.2.2.2.2.1) fun g=>bJ (rE g.1.1 g.1.2.1 g.1.2.2.1 g.1.2.2.2.1 g.1.2.2.2.2.1 g.1.2.2.2.2.2.1 i.1.1) fun d=>bJ (pU d.1.1 d.1.2.1 d.1.2.2.1 d.1.2.2.2.1 d.1.2.2.2.2.1 d.1.2.2.2.2.2.1 [121]) fun e=>cond e.2.1 (bJ (uK e.1.1 e.1.2.1 e.1.2.2.1 (cO .i64 e.1.2.2.2.1 1) e.1.2.2.2.2.1 e.1.2.2.2.2.2.1) fun o=>p e.2.1 o.1.1 o.1.2.1 o.1.2.2.2.1 o.1.2.2.2.2.1 o.1.2.2.2.2.2.1 o.1.2.2.1)<|p e.2.1 e.1.1 e.1.2.1 e.1.2.2.2.1 e.1.2.2.2.2.1 e.1.2.2.2.2.2.1 e.1.2.2.1)<|bJ (rE f.1.1 f.1.2.1 f.1.2.2.1 f.1.2.2.2.1 f.1.2.2.2.2.1 f.1.2.2.2.2.2.1 i.1.1) fun g=>bJ (pU g.1.1 g.1.2.1 g.1.2.2.1 g.1.2.2.2.1 g.1.2.2.2.2.1 g.1.2.2.2.2.2.1 [121]) fun d=>cond d.2.1 (bJ (uK d.1.1 d.1.2.1 d.1.2.2.1 (cO .i64 d.1.2.2.2.1 1) d.1.2.2.2.2.1 d.1.2.2.2.2.2.1) fun e=>p d.2.1 e.1.1 e.1.2.1 e.1.2.2.2.1 e.1.2.2.2.2.1 e.1.2.2.2.2.2.1 e.1.2.2.1)<|p d.2.1 d.1.1 d.1.2.1 d.1.2.2.2.1 d.1.2.2.2.2.1 d.1.2.2.2.2.2.1 d.1.2.2.1) (fun y=>v)
def Pg (q:jl) {i:Type} (j:Bool->(List gJ)->bV->Int->Int->Int->(List gQ)->Option i) (l:(List gJ)->bV->Int->Int->Int->(List gQ)->Option i) (m:Option i) (z:Bool) (p:List gJ) (s:bV) (u v x:Int) (y:List gQ):Option i:=cond z (bJ (pU p s y u v x [40]) fun d=>cond d.2.1 (bJ (Gw d.1.1 d.1.2.1 d.1.2.2.1 d.1.2.2.2.1 d.1.2.2.2.2.1 d.1.2.2.2.2.2.1 15) fun e=>bJ (pU e.1.1 e.1.2.1 e.1.2.2.1 e.1.2.2.2.1 e.1.2.2.2.2.1 e.1.2.2.2.2.2.1 [40]) fun f=>cond f.2.1 (bJ (zO f.1.1 f.1.2.1 f.1.2.2.1 (cO .i64 f.1.2.2.2.1 1) f.1.2.2.2.2.1 f.1.2.2.2.2.2.1) fun g=>vz q e g j m)<|bJ (zO f.1.1 f.1.2.1 f.1.2.2.1 f.1.2.2.2.1 f.1.2.2.2.2.1 f.1.2.2.2.2.2.1) fun g=>vz q e g j m)<|cond (iF d.1.2.2.2.1 (bK d.1.1)) (cond (gy d.1.1 d.1.2.2.2.1) (cond (bY (ed d.1.1 (0,([],(0,(0,())))) d.1.2.2.2.1).1 6) (bJ (pU d.1.1 d.1.2.1 d.1.2.2.1 d.1.2.2.2.1 d.1.2.2.2.2.1 d.1.2.2.2.2.2.1 [122]) fun e=>cond (!e.2.1) (bJ (Gw e.1.1 e.1.2.1 e.1.2.2.1 e.1.2.2.2.1 e.1.2.2.2.2.1 e.1.2.2.2.2.2.1 15) fun f=>bJ (pU f.1.1 f.1.2.1 f.1.2.2.1 f.1.2.2.2.1 f.1.2.2.2.2.1 f.1.2.2.2.2.2.1 [40]) fun g=>cond g.2.1 (bJ (zO g.1.1 g.1.2.1 g.1.2.2.1 (cO .i64 g.1.2.2.2.1 1) g.1.2.2.2.2.1 g.1.2.2.2.2.2.1) fun o=>vz q f o j m)<|bJ (zO g.1.1 g.1.2.1 g.1.2.2.1 g.1.2.2.2.1 g.1.2.2.2.2.1 g.1.2.2.2.2.2.1) fun o=>vz q f o j m)<|l e.1.1 e.1.2.1 e.1.2.2.2.1 e.1.2.2.2.2.1 e.1.2.2.2.2.2.1 e.1.2.2.1)<|l d.1.1 d.1.2.1 d.1.2.2.2.1 d.1.2.2.2.2.1 d.1.2.2.2.2.2.1 d.1.2.2.1) a7)<|l d.1.1 d.1.2.1 d.1.2.2.2.1 d.1.2.2.2.2.1 d.1.2.2.2.2.2.1 d.1.2.2.1)<|l p s u v x y
def BF (q:jl):Nat->Bool->(List gJ)->bV->Int->Int->Int->(List gQ)->Option (adV.den⊕aev.den)
 |0,_,_,_,_,_,_,_=>a7
 |n+1,d,e,f,g,i,j,l=>Pg q (BF q n) (fun m o p s u v=>a6 (.inl ((),((),()),((m,o,p,s,u,()),v,())))) (a6 (.inr ((),((),()),()))) d e f g i j l
def aCT (q:jl) (n:Nat) (v:adl.den):=bA (BF q n) v
noncomputable def anM (q:jl):dD:=fP aw1 adl adV aev (.exit 0) (aCT q bT) 12
def avW (q:jl) (l:List gJ) (m:bV) (o:List gQ) (p s u:Int):Option Gs:=bJ (zO l m o p s u) fun d=>bJ (uK d.1.1 d.1.2.1 d.1.2.2.1 d.1.2.2.2.1 d.1.2.2.2.2.1 d.1.2.2.2.2.2.1) fun e=>bJ (oJ e.1.1 e.1.2.1 e.1.2.2.1 e.1.2.2.2.1 e.1.2.2.2.2.1 e.1.2.2.2.2.2.1 [107]) fun f=>bJ (uK f.1.1 f.1.2.1 f.1.2.2.1 f.1.2.2.2.1 f.1.2.2.2.2.1 f.1.2.2.2.2.2.1) fun g=>bJ (BF q bT true g.1.1 g.1.2.1 g.1.2.2.2.1 g.1.2.2.2.2.1 g.1.2.2.2.2.2.1 g.1.2.2.1) fun v=>dR v (fun i=>bJ (oJ i.2.2.1.1 i.2.2.1.2.1 i.2.2.2.1 i.2.2.1.2.2.1 i.2.2.1.2.2.2.1 i.2.2.1.2.2.2.2.1 [122]) fun j=>a6 ((j.1.1,(j.1.2.1,(j.1.2.2.1,(j.1.2.2.2.1,(j.1.2.2.2.2.1,(j.1.2.2.2.2.2.1,())))))),())) (fun x=>a7)
noncomputable def abN (q:jl):Env:=gY prog tt [] [(249,10,am3),(249,5,aw1)] [(249,10,ahq q),(249,5,anM q)] [] [(33,Tq),(34,KR),(35,aa5),(36,alK q),(38,Tt),(76,Tu),(216,Yr),(250,azX)]
def aia (q:jl) {d:Type} (a:Ud.den->Option d) (b:Xx.den->Option d) (c:XF.den->Option d) (v:Ud.den):Option d:=bA (O9 q (bx a) (bx b) (c ((),((),()),()))) v
theorem ayc (q:jl):dX (abN q) 249 al2 (ahq q):=mF (aia q) (h2:=by intros;simp only[aia,bx,bA,O9,dm,dn,bI,di,dw])
def ape (q:jl) {d:Type} (a:adl.den->Option d) (b:adV.den->Option d) (c:aev.den->Option d) (v:adl.den):Option d:=bA (Pg q (bx a) (fun e f g i j l=>b ((),((),()),((e,f,g,i,j,()),l,()))) (c ((),((),()),()))) v
theorem aDD (q:jl):dX (abN q) 249 auj (anM q):=mF (ape q) (h2:=by intros;simp only[ape,bx,bA,Pg,dm,dn,bI,di,dw,vz])
theorem aHT (q:jl):dO (abN q) 249 aBb:=pI [al2,auj] (aD (fM (ayc q)) (aD (fM (aDD q)) aN))
theorem aqQ (q:jl) (H:H36 q):fK (abN q):=eB aN [249] (aD ⟨f249,aBb,by kernel_rfl,by kernel_rfl,aHT q⟩ aN) (hx:=(aD rU (aD lT (aD IA (aD H.1 (aD rV (aD Ar (aD JU (aD aa3 aN)))))))))
def gZ:Nat->jl
 |0=>⟨(fun _ _ _ _ _ _=>a7),(fun _ _ _ _ _ _=>a7),(fun _ _ _ _ _ _=>a7),(fun _ _ _ _ _ _=>a7),(fun _ _ _ _ _ _=>a7),(fun _ _ _ _ _ _=>a7),(fun _ _ _ _ _ _=>a7),(fun _ _ _ _ _ _=>a7),(fun _ _ _ _ _ _=>a7)⟩
 |r+1=>⟨aGZ (gZ r),aG0 (gZ r),avR (gZ r),avS (gZ r),avT (gZ r),avU (gZ r),DV (gZ r),avV (gZ r),avW (gZ r)⟩
def aG2 (d:List gJ) (e:bV) (f:List gQ) (g i j:Int):Option Gs:=(gZ bT).q36 d e f g i j
def aFu:fZ:=⟨82,ML,[],[],fun x y=>aG2 x.1 x.2.1 x.2.2.1 x.2.2.2.1 x.2.2.2.2.1 x.2.2.2.2.2.1⟩
def aOr (d:List gJ) (e:bV) (f:List gQ) (g i j:Int):Option Gs:=(gZ bT).q75 d e f g i j
def aNm:fZ:=⟨82,ML,[],[],fun x y=>aOr x.1 x.2.1 x.2.2.1 x.2.2.2.1 x.2.2.2.2.1 x.2.2.2.2.2.1⟩
def aLE (d:List gJ) (e:bV) (f:List gQ) (g i j:Int):Option Gs:=(gZ bT).q119 d e f g i j
def aJq:fZ:=⟨82,ML,[],[],fun x y=>aLE x.1 x.2.1 x.2.2.1 x.2.2.2.1 x.2.2.2.2.1 x.2.2.2.2.2.1⟩
def aLG (d:List gJ) (e:bV) (f:List gQ) (g i j:Int):Option Gs:=(gZ bT).q163 d e f g i j
def aJB:fZ:=⟨82,ML,[],[],fun x y=>aLG x.1 x.2.1 x.2.2.1 x.2.2.2.1 x.2.2.2.2.1 x.2.2.2.2.2.1⟩
def aLK (d:List gJ) (e:bV) (f:List gQ) (g i j:Int):Option Gs:=(gZ bT).q246 d e f g i j
def aJ4:fZ:=⟨82,ML,[],[],fun x y=>aLK x.1 x.2.1 x.2.2.1 x.2.2.2.1 x.2.2.2.2.1 x.2.2.2.2.2.1⟩
def aLL (d:List gJ) (e:bV) (f:List gQ) (g i j:Int):Option Gs:=(gZ bT).q247 d e f g i j
def aJ5:fZ:=⟨82,ML,[],[],fun x y=>aLL x.1 x.2.1 x.2.2.1 x.2.2.2.1 x.2.2.2.2.1 x.2.2.2.2.2.1⟩
def aLI (d:List gJ) (e:bV) (f:List gQ) (g i j:Int):Option Gs:=(gZ bT).q214 d e f g i j
def aJV:fZ:=⟨82,ML,[],[],fun x y=>aLI x.1 x.2.1 x.2.2.1 x.2.2.2.1 x.2.2.2.2.1 x.2.2.2.2.2.1⟩
def aLM (d:List gJ) (e:bV) (f:List gQ) (g i j:Int):Option Gs:=(gZ bT).q248 d e f g i j
def aJ6:fZ:=⟨82,ML,[],[],fun x y=>aLM x.1 x.2.1 x.2.2.1 x.2.2.2.1 x.2.2.2.2.1 x.2.2.2.2.2.1⟩
def aLN (d:List gJ) (e:bV) (f:List gQ) (g i j:Int):Option Gs:=(gZ bT).q249 d e f g i j
def aJ7:fZ:=⟨82,ML,[],[],fun x y=>aLN x.1 x.2.1 x.2.2.1 x.2.2.2.1 x.2.2.2.2.1 x.2.2.2.2.2.1⟩
theorem aak (q:jl) (d:H36 q):H36 ⟨aGZ q,aG0 q,avR q,avS q,avT q,avU q,DV q,avV q,avW q⟩:=⟨sB (au1 q d),sB (avr q d),sB (aql q d),sB (aqw q d),sB (aqN q d),sB (aqO q d),sB (aqH q d),sB (aqP q d),sB (aqQ q d)⟩
theorem Dp: ∀r,H36 (gZ r)
 |0=>⟨pM fun _ _=>rfl,pM fun _ _=>rfl,pM fun _ _=>rfl,pM fun _ _=>rfl,pM fun _ _=>rfl,pM fun _ _=>rfl,pM fun _ _=>rfl,pM fun _ _=>rfl,pM fun _ _=>rfl⟩
 |r+1=>aak _ (Dp r)
theorem az6:dQ prog 36 aFu:=(Dp bT).1
theorem aNn:dQ prog 75 aNm:=(Dp bT).2.1
theorem aKD:dQ prog 119 aJq:=(Dp bT).2.2.1
theorem aKF:dQ prog 163 aJB:=(Dp bT).2.2.2.1
theorem aKJ:dQ prog 246 aJ4:=(Dp bT).2.2.2.2.1
theorem aKK:dQ prog 247 aJ5:=(Dp bT).2.2.2.2.2.1
theorem aKH:dQ prog 214 aJV:=(Dp bT).2.2.2.2.2.2.1
theorem aKL:dQ prog 248 aJ6:=(Dp bT).2.2.2.2.2.2.2.1
theorem aKM:dQ prog 249 aJ7:=(Dp bT).2.2.2.2.2.2.2.2
noncomputable def b18:Code:=(f18.body).getD .skip
noncomputable def aEj:Code:=cA (cA (cB (cA (cB (cB (b18))))))
noncomputable def aEk:Code:=cA (cA (cA (cB (cB (cB (cB (cB (cB (b18)))))))))
def aER:fJ:=⟨[0,3,4,100003],[],[0,3],[],[2],[(2,o8)]⟩
def aES:fJ:=⟨[0,5,6,7,100009],[],[5,6],[],[2],[(2,o8)]⟩
def an6:SP:=⟨us [.v ru,.u,.u,b9,bX] 56,[]⟩
def akr:SP:=⟨us [.v ru,.u,.u,b9] 57,[]⟩
def akR:SP:=⟨us [.u,.u,eM] 58,[]⟩
def ae0 {e:Type} (j:(List gJ)->bV->Int->Option e) (l:(List gJ)->bV->Option e) (m:(List gQ)->Option e) (d:List gJ) (g:bV) (f:Int):Option e:=cond (iF f (bK d)) (cond (gy d f) (bJ (nS (ed d (0,([],(0,(0,())))) f)) fun i=>cond (iQ g i.1) (j d (bU g i.1) (cO .i64 f 1)) a7) a7)<|l d g
def Qi:Nat->(List gJ)->bV->Int->Option (akr.den⊕akR.den)
 |0,_,_,_=>a7
 |n+1,d,e,f=>ae0 (Qi n) (fun g i=>a6 (.inl ((g,i,()),()))) (fun j=>a6 (.inr ((j,()),()))) d e f
def aH3 (n:Nat) (v:an6.den):=ba (Qi n) v
noncomputable def axz:dD:=gu aER an6 akr akR (.exit 0) (aH3 bT) 6
def an7:SP:=⟨us [.v ru,.u,.u,.u,.u,.ptr 1000024 0,bX,bX] 53,ek⟩
def aks:SP:=⟨us [.u,.u,.u,.u,.u,.ptr 1000024 0,bX] 54,ek⟩
def akS:SP:=⟨us [.u,.u,eM] 58,[]⟩
def ae1 {j:Type} (l:(List gJ)->Int->Int->(List gQ)->(List gJ)->bV->Int->Int->Int->Option j) (x:Int->(List gQ)->(List gJ)->bV->Int->Int->Int->Option j) (y:(List gQ)->Option j) (g:List gJ) (i o:Int) (p:List gQ) (q:List gJ) (s:bV) (m u v:Int):Option j:=cond (iF m (bK g)) (bJ (pU q s p m u v [110]) fun e=>cond e.2.1 (l g i o e.1.2.2.1 e.1.1 e.1.2.1 (cO .i64 e.1.2.2.2.1 1) e.1.2.2.2.2.1 e.1.2.2.2.2.2.1)<|cond (!(bY o 2)) (bJ (Tz e.1.1 e.1.2.1 e.1.2.2.1 e.1.2.2.2.1 e.1.2.2.2.2.1 e.1.2.2.2.2.2.1) fun d=>cond d.2.1 (bJ (aG2 d.1.1 d.1.2.1 d.1.2.2.1 d.1.2.2.2.1 d.1.2.2.2.2.1 d.1.2.2.2.2.2.1) fun f=>l g i 2 f.1.2.2.1 f.1.1 f.1.2.1 f.1.2.2.2.1 f.1.2.2.2.2.1 f.1.2.2.2.2.2.1)<|bJ (P8 d.1.1 d.1.2.1 d.1.2.2.1 d.1.2.2.2.1 d.1.2.2.2.2.1 d.1.2.2.2.2.2.1 17) fun f=>l g i 17 f.1.2.2.1 f.1.1 f.1.2.1 f.1.2.2.2.1 f.1.2.2.2.2.1 f.1.2.2.2.2.2.1)<|bJ (P8 e.1.1 e.1.2.1 e.1.2.2.1 e.1.2.2.2.1 e.1.2.2.2.2.1 e.1.2.2.2.2.2.1 17) fun d=>l g i 17 d.1.2.2.1 d.1.1 d.1.2.1 d.1.2.2.2.1 d.1.2.2.2.2.1 d.1.2.2.2.2.2.1)<|x i p q s m u v
def LK:Nat->(List gJ)->Int->Int->(List gQ)->(List gJ)->bV->Int->Int->Int->Option (aks.den⊕akS.den)
 |0,_,_,_,_,_,_,_,_,_=>a7
 |n+1,d,e,f,g,i,j,l,m,o=>ae1 (LK n) (fun p q s u v x y=>a6 (.inl ((p,()),(q,(s,u,v,x,y,()),())))) (fun z=>a6 (.inr ((z,()),()))) d e f g i j l m o
def aH4 (n:Nat) (v:an7.den):=LK n v.1.1 v.1.2.1 v.1.2.2.1 v.2.1 v.2.2.1.1 v.2.2.1.2.1 v.2.2.1.2.2.1 v.2.2.1.2.2.2.1 v.2.2.1.2.2.2.2.1
noncomputable def axA:dD:=gu aES an7 aks akS (.exit 2) (aH4 bT) 12
def aBD (g:List gJ):Option ((List gQ)×Unit):=bJ (Qi bT g [] 0) fun i=>dR i (fun f=>bJ (Gw f.1.1 f.1.2.1 [] 0 (-1) 0 1) fun d=>bJ (LK bT f.1.1 d.2.1 0 d.1.2.2.1 d.1.1 d.1.2.1 d.1.2.2.2.1 d.1.2.2.2.2.1 d.1.2.2.2.2.2.1) fun j=>dR j (fun e=>bJ (rE e.2.2.1.1 e.2.2.1.2.1 e.2.1 e.2.2.1.2.2.1 e.2.2.1.2.2.2.1 e.2.2.1.2.2.2.2.1 e.1.1) fun l=>a6 (l.1.2.2.1,())) (fun b4=>a6 (b4.1.1,()))) (fun m=>a6 (m.1.1,()))
def aNb:Sum:=⟨[ru],[(.list o8,false)],fun x=>aBD x.1⟩
noncomputable def amb:Env:=jm prog tt 18 [(32,aFt)] [(3,aER),(9,aES)] [(3,axz),(9,axA)] [(33,Tq),(34,KR),(35,aa5),(36,aFu),(37,apM),(38,Tt)]
def ayF {d:Type} (a:an6.den->Option d) (b:akr.den->Option d) (c:akR.den->Option d) (v:an6.den):Option d:=ba (ae0 (fun e f g=>a ((e,f,g,()),())) (aL b) (aE c)) v
theorem aIE:dX amb 18 aEj axz:=yu (ayF) (h2:=by intros;simp only[ayF,aL,aE,ba,ae0,dm,dn,bI,di,dw])
def ayG {d:Type} (a:an7.den->Option d) (b:aks.den->Option d) (c:akS.den->Option d) (v:an7.den):Option d:=ae1 (fun e f g i j l m o p=>a ((e,f,g,()),(i,(j,l,m,o,p,()),()))) (fun q s u x y z A=>b ((q,()),(s,(u,x,y,z,A,()),()))) (aE c) v.1.1 v.1.2.1 v.1.2.2.1 v.2.1 v.2.2.1.1 v.2.2.1.2.1 v.2.2.1.2.2.1 v.2.2.1.2.2.2.1 v.2.2.1.2.2.2.2.1
theorem aIF:dX amb 18 aEk axA:=yu (ayG) (h2:=by intros;simp only[ayG,aE,ae1,dm,dn,bI,di,dw])
theorem aMj:dO amb 18 b18:=pI [aEj,aEk] (aD (fM (aIE)) (aD (fM (aIF)) aN))
theorem auQ:fK amb:=eA f18 (aD az5 aN) (aMj) (hx:=(aD rU (aD lT (aD IA (aD az6 (aD Pv (aD rV aN)))))))
theorem aNc:dU prog 18 aNb:=sA auQ
end
end Go.Proofs.YtkichehglnecnaaGreatDoor
