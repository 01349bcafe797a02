/- Parts of the proof, joined and shortened by a program: the plain machine, the functions as it prints them, and the mathematics over them. -/
import Derived.Test.YtlhpdcadgbjhiaaGreatDoorY3
import Derived.Test.YtlhpdcadgbjhiaaGreatDoorY4
set_option linter.unusedVariables false
set_option linter.unusedSimpArgs false
set_option maxRecDepth 100000
set_option maxHeartbeats 4000000
namespace Go.Proofs.YtlhpdcadgbjhiaaGreatDoor
section
open Option renaming some → a6, none → a7
open Tryz
open Go.RowKit
def aBD (d:Int):Option pq:=cond (leI 4 d) (a6 ((leI d 12),()))<|some (false,())
def aGs:Sum:=⟨[dA],NZ,fun x=>aBD x.1⟩
theorem apn:dU prog 217 aGs:=qA Tryz.f217 [] aN
def ai8 (e:bZ):Option CQ:=bH (Oh e) fun d=>cond (bP d.1 1) (a6 (97,()))<|cond (bP d.1 2) (a6 (111,()))<|cond (bP d.1 3) (a6 (121,()))<|bH (aBD d.1) fun f=>cond f.1 (a6 (60,()))<|cond (!(bP d.1 0)) (cond (fD e 0) (a6 ((bY e 0),())) a7)<|some (63,())
def aGj:Sum:=⟨[.str],[(.int .u8,false)],fun x=>ai8 x.1⟩
theorem ao7:dU prog 173 aGj:=qA f173 [] (sE NJ (sE apn aN))
def YB (d:bZ):Option CQ:=cond (gG d [100,111]) (a6 (100,()))<|cond (gG d [100,111,110,101]) (a6 (103,()))<|cond (gG d [102,111,114]) (a6 (114,()))<|cond (gG d [105,110]) (a6 (107,()))<|cond (gG d [99,97,115,101]) (a6 (99,()))<|cond (gG d [101,115,97,99]) (a6 (122,()))<|some (120,())
def PO (d:bZ):Option CQ:=cond (gG d [105,102]) (a6 (105,()))<|cond (gG d [116,104,101,110]) (a6 (116,()))<|cond (gG d [101,108,105,102]) (a6 (101,()))<|cond (gG d [101,108,115,101]) (a6 (108,()))<|cond (gG d [102,105]) (a6 (102,()))<|cond (gG d [119,104,105,108,101]) (cond (gG d [119,104,105,108,101]) (a6 (119,()))<|YB d)<|cond (gG d [117,110,116,105,108]) (a6 (119,()))<|YB d
def ai9 (d:bZ):Option CQ:=cond (gG d [33]) (cond (gG d [33]) (cond (fD d 0) (a6 ((bY d 0),())) a7)<|PO d)<|cond (gG d [123]) (cond (gG d [123]) (cond (fD d 0) (a6 ((bY d 0),())) a7)<|PO d)<|cond (gG d [125]) (cond (fD d 0) (a6 ((bY d 0),())) a7)<|PO d
def aGk:Sum:=⟨[.str],[(.int .u8,false)],fun x=>ai9 x.1⟩
theorem ao8:dU prog 174 aGk:=qA f174 [] aN
def SC (d:gu):Option CQ:=cond (bP d.1 2) (a6 (110,()))<|cond (bP d.1 4) (bH (ai8 d.2.1) fun e=>a6 (e.1,()))<|cond (bP d.1 5) (a6 (35,()))<|cond (bP d.1 6) (bH (ai9 d.2.1) fun e=>a6 (e.1,()))<|some (63,())
def aGe:Sum:=⟨[Vb],[(.int .u8,false)],fun x=>SC x.1⟩
theorem aoY:dU prog 145 aGe:=qA f145 [] (sE ao7 (sE ao8 aN))
def xQ (d:List gu) (e:Int) (g:List gJ) (h i f:Int):Option (taE×CQ):=cond (leI (bI d) (di .i64 e f)) (a6 ((d,(e,(g,(h,(i,()))))),(0,())))<|cond (fD d (di .i64 e f)) (bH (SC (dw d (0,([],(0,(0,())))) (di .i64 e f))) fun j=>a6 ((d,(e,(g,(h,(i,()))))),(j.1,()))) a7
def aid:fZ:=⟨90,GH,[dA],[.int .u8],fun x y=>xQ x.1 x.2.1 x.2.2.1 x.2.2.2.1 x.2.2.2.2.1 y.1⟩
theorem sJ:dW prog 103 aid:=qB [] (sE aoY aN)
def Wl (e:List gu) (f:Int) (g:List gJ) (h i:Int) (j:bZ):Option (taE×pq):=bH (xQ e f g h i 0) fun d=>cond (!(bP d.2.1 0)) (bH (adm j d.2.1) fun l=>a6 ((d.1.1,(d.1.2.1,(d.1.2.2.1,(d.1.2.2.2.1,(d.1.2.2.2.2.1,()))))),((leI 0 l.1),())))<|some ((d.1.1,(d.1.2.1,(d.1.2.2.1,(d.1.2.2.2.1,(d.1.2.2.2.2.1,()))))),(false,()))
def awi:fZ:=⟨90,GH,[.str],[.bool],fun x y=>Wl x.1 x.2.1 x.2.2.1 x.2.2.2.1 x.2.2.2.2.1 y.1⟩
theorem NH:dW prog 102 awi:=qB [] (sE Xz aN) (sF sJ aN)
def rD (e:List gu) (f:Int) (g:List gJ) (h i:Int) (j:bZ):Option (taE×pq):=bH (Wl e f g h i j) fun d=>cond (!d.2.1) (a6 ((d.1.1,(d.1.2.1,(d.1.2.2.1,(d.1.2.2.2.1,(d.1.2.2.2.2.1,()))))),(false,())))<|some ((d.1.1,((di .i64 d.1.2.1 1),(d.1.2.2.1,(d.1.2.2.2.1,(d.1.2.2.2.2.1,()))))),(true,()))
def EK:fZ:=⟨90,GH,[.str],[.bool],fun x y=>rD x.1 x.2.1 x.2.2.1 x.2.2.2.1 x.2.2.2.2.1 y.1⟩
theorem ni:dW prog 69 EK:=qB [] aN (sF NH aN)
def adn (f:List gu) (g:Int) (h:List gJ) (i j:Int):Option (taE×pq):=bH (xQ f g h i j 0) fun d=>cond (bP d.2.1 60) (a6 ((d.1.1,(d.1.2.1,(d.1.2.2.1,(d.1.2.2.2.1,(d.1.2.2.2.2.1,()))))),(true,())))<|cond (bP d.2.1 35) (bH (xQ d.1.1 d.1.2.1 d.1.2.2.1 d.1.2.2.2.1 d.1.2.2.2.2.1 1) fun e=>a6 ((e.1.1,(e.1.2.1,(e.1.2.2.1,(e.1.2.2.2.1,(e.1.2.2.2.2.1,()))))),((bP e.2.1 60),())))<|some ((d.1.1,(d.1.2.1,(d.1.2.2.1,(d.1.2.2.2.1,(d.1.2.2.2.2.1,()))))),(false,()))
def aGf:fZ:=⟨90,GH,[],[.bool],fun x y=>adn x.1 x.2.1 x.2.2.1 x.2.2.2.1 x.2.2.2.2.1⟩
theorem XA:dW prog 146 aGf:=qB [] aN (sF sJ aN)
def Wq (f:List gu) (g:Int) (h:List gJ) (i e:Int):Option (taE×pq):=cond (gV e 200) (bH (Wl f g h i e [123,40,105,119,114,99]) fun d=>a6 ((d.1.1,(d.1.2.1,(d.1.2.2.1,(d.1.2.2.2.1,(d.1.2.2.2.2.1,()))))),(d.2.1,())))<|some ((f,(g,(h,(i,(e,()))))),(false,()))
def aig:fZ:=⟨90,GH,[],[.bool],fun x y=>Wq x.1 x.2.1 x.2.2.1 x.2.2.2.1 x.2.2.2.2.1⟩
theorem NK:dW prog 147 aig:=qB [] aN (sF NH aN)
def ada (g:List gu) (h:Int) (i:List gJ) (j l:Int):Option (taE×pq):=bH (xQ g h i j l 0) fun d=>cond (bP d.2.1 120) (a6 ((d.1.1,(d.1.2.1,(d.1.2.2.1,(d.1.2.2.2.1,(d.1.2.2.2.2.1,()))))),(true,())))<|bH (adn d.1.1 d.1.2.1 d.1.2.2.1 d.1.2.2.2.1 d.1.2.2.2.2.1) fun e=>cond e.2.1 (a6 ((e.1.1,(e.1.2.1,(e.1.2.2.1,(e.1.2.2.2.1,(e.1.2.2.2.2.1,()))))),(true,())))<|bH (Wq e.1.1 e.1.2.1 e.1.2.2.1 e.1.2.2.2.1 e.1.2.2.2.2.1) fun f=>a6 ((f.1.1,(f.1.2.1,(f.1.2.2.1,(f.1.2.2.2.1,(f.1.2.2.2.2.1,()))))),(f.2.1,()))
def awj:fZ:=⟨90,GH,[],[.bool],fun x y=>ada x.1 x.2.1 x.2.2.1 x.2.2.2.1 x.2.2.2.2.1⟩
theorem Xt:dW prog 104 awj:=qB [] aN (sF sJ (sF XA (sF NK aN)))
def YL (f:List gu) (g:Int) (h:List gJ) (i j:Int):Option (taE×pq):=bH (xQ f g h i j 0) fun d=>cond (bP d.2.1 33) (a6 ((d.1.1,(d.1.2.1,(d.1.2.2.1,(d.1.2.2.2.1,(d.1.2.2.2.2.1,()))))),(true,())))<|bH (ada d.1.1 d.1.2.1 d.1.2.2.1 d.1.2.2.2.1 d.1.2.2.2.2.1) fun e=>a6 ((e.1.1,(e.1.2.1,(e.1.2.2.1,(e.1.2.2.2.1,(e.1.2.2.2.2.1,()))))),(e.2.1,()))
def XM:fZ:=⟨90,GH,[],[.bool],fun x y=>YL x.1 x.2.1 x.2.2.1 x.2.2.2.1 x.2.2.2.2.1⟩
theorem EL:dW prog 70 XM:=qB [] aN (sF sJ (sF Xt aN))
noncomputable def aC9:Code:=(f106.body).getD .skip
noncomputable def aqd:Code:=cA (cA (cA (cB (cB (aC9)))))
def YX:eQ:=⟨[0,3,100002],[],[3],[],[2],[]⟩
def Zo:SQ:=⟨[co,.u,.u,ca,.u,.u,.u,.u,.u],c9,dq⟩
def aae:SQ:=⟨[.u,.u,.u,ca,.u,.u,.u,.u,.u],c9,dq⟩
def aaR:SQ:=⟨us [.u,.u,ca] 6,c9,[]⟩
def Qq {e:Type} (g h:Bool->(List gu)->Int->Int->Int->(List gJ)->Option e) (q:Bool->Option e) (f:Bool) (i:List gu) (j l o:Int) (p:List gJ):Option e:=bH (rD i j p l o [110]) fun d=>cond d.2.1 (g f d.1.1 d.1.2.1 d.1.2.2.2.1 d.1.2.2.2.2.1 d.1.2.2.1)<|h f d.1.1 d.1.2.1 d.1.2.2.2.1 d.1.2.2.2.2.1 d.1.2.2.1
def JV:Nat->Bool->(List gu)->Int->Int->Int->(List gJ)->Option (aae.den⊕aaR.den)
 |0,_,_,_,_,_,_=>a7
 |n+1,d,e,f,g,h,i=>Qq (JV n) (fun j l o p q s=>a6 (.inl ((j,()),((),()),((l,o,p,q,()),s,())))) (fun u=>a6 (.inr ((u,()),((),()),()))) d e f g h i
def azc (n:Nat) (v:Zo.den):=bk (JV n) v
noncomputable def ajQ:dE:=fF YX Zo aae aaR (.exit 0) (azc bM) 6
def pJ (f:List gu) (g:Int) (h:List gJ) (i j:Int):Option (taE×pq):=bH (rD f g h i j [110]) fun d=>bH (JV bM d.2.1 d.1.1 d.1.2.1 d.1.2.2.2.1 d.1.2.2.2.2.1 d.1.2.2.1) fun l=>dN l (fun e=>a6 ((e.2.2.1.1,(e.2.2.1.2.1,(e.2.2.2.1,(e.2.2.1.2.2.1,(e.2.2.1.2.2.2.1,()))))),(e.1.1,()))) (fun o=>a7)
def CP:fZ:=⟨90,GH,[],[.bool],fun x y=>pJ x.1 x.2.1 x.2.2.1 x.2.2.2.1 x.2.2.2.2.1⟩
noncomputable def afX:Env:=gB prog tt [] [(106,2,YX)] [(106,2,ajQ)] [] [(69,EK)]
def ald {d:Type} (a:Zo.den->Option d) (b:aae.den->Option d) (c:aaR.den->Option d) (v:Zo.den):Option d:=bk (Qq (bj a) (bj b) (fun e=>c ((e,()),((),()),()))) v
theorem az1:dQ afX 106 aqd ajQ:=lu (ald) (h2:=by intros;simp only[ald,bj,bk,Qq,cO,cZ,bG,bW,dh])
theorem aEb:dM afX 106 aC9:=nV [aqd] (aD (fM (az1)) aN)
theorem amN:eu afX:=eB aN [106] (aD ⟨f106,aC9,by kernel_rfl,by kernel_rfl,aEb⟩ aN) (hx:=(aD ni aN))
theorem qM:dW prog 106 CP:=sB amN
def jO:eQ:=⟨[0,2,6,7],[],[],[],[],[]⟩
def xR (g:List gu) (d:Int) (f:List gJ) (e h:Int):Option AV:=cond (bP 18 18) (cond (bP d d) (cond (bP e e) (cond (dY (bT f [(18,(d,(0,(e,()))))]) 32) (cond (bP 18 18) (cond (bP d d) (cond (bP e e) (cond ((bP 18 18)&&((bP d d)&&((bP 0 0)&&((bP e e)&&true)))) (cond (fD (bT f [(18,(d,(0,(e,()))))]) (bI f)) (cond (lZ (dC (bI f)) (bT f [(18,(d,(0,(e,()))))])) (a6 ((g,(d,((gX (bT f [(18,(d,(0,(e,()))))]) (dC (bI f)) ((dJ (bT f [(18,(d,(0,(e,()))))]) (0,(0,(0,(0,())))) (dC (bI f))).1,((dJ (bT f [(18,(d,(0,(e,()))))]) (0,(0,(0,(0,())))) (dC (bI f))).2.1,(d,((dJ (bT f [(18,(d,(0,(e,()))))]) (0,(0,(0,(0,())))) (dC (bI f))).2.2.2.1,()))))),(e,(h,()))))),())) a7) a7) a7) a7) a7) a7) a7) a7) a7) a7
def NQ:fZ:=⟨90,GH,[],[],fun x y=>xR x.1 x.2.1 x.2.2.1 x.2.2.2.1 x.2.2.2.2.1⟩
theorem sK:dW prog 175 NQ:=qB [(175,600000,vz),(41,600003,jO)] aN
def agA (d:bZ):Option pq:=cond (!(gG d [])) (bH (agH d 0) fun e=>a6 ((bP e.1 (bI d)),()))<|some (false,())
def axp:Sum:=⟨[.str],NZ,fun x=>agA x.1⟩
theorem UY:dU prog 60 axp:=qA f60 [] (sE U0 aN)
def aje (f:List gu) (g:Int) (h:List gJ) (i j:Int):Option (taE×pq):=bH (xQ f g h i j 0) fun e=>cond (bP e.2.1 120) (bH (xQ e.1.1 e.1.2.1 e.1.2.2.1 e.1.2.2.2.1 e.1.2.2.2.2.1 1) fun d=>cond (bP d.2.1 40) (cond (gV d.1.2.2.2.2.1 200) (cond (fD d.1.1 d.1.2.1) (bH (agA (dw d.1.1 (0,([],(0,(0,())))) d.1.2.1).2.1) fun l=>a6 ((d.1.1,(d.1.2.1,(d.1.2.2.1,(d.1.2.2.2.1,(d.1.2.2.2.2.1,()))))),(l.1,()))) a7)<|some ((d.1.1,(d.1.2.1,(d.1.2.2.1,(d.1.2.2.2.1,(d.1.2.2.2.2.1,()))))),(false,())))<|some ((d.1.1,(d.1.2.1,(d.1.2.2.1,(d.1.2.2.2.1,(d.1.2.2.2.2.1,()))))),(false,())))<|some ((e.1.1,(e.1.2.1,(e.1.2.2.1,(e.1.2.2.2.1,(e.1.2.2.2.2.1,()))))),(false,()))
def awY:fZ:=⟨90,GH,[],[.bool],fun x y=>aje x.1 x.2.1 x.2.2.1 x.2.2.2.1 x.2.2.2.2.1⟩
theorem apo:dW prog 220 awY:=qB [] (sE UY aN) (sF sJ aN)
def aD1:eQ:=⟨[1,2],[],[],[],[],[]⟩
def SS (h:List gu) (d:Int) (f:List gJ) (e i g:Int):Option AV:=cond (bP g g) (cond (bP d d) (cond (bP e e) (cond (dY (bT f [(g,(d,(0,(e,()))))]) 32) (cond (bP g g) (cond (bP d d) (cond (bP e e) (cond ((bP g g)&&((bP d d)&&((bP 0 0)&&((bP e e)&&true)))) (cond (fD (bT f [(g,(d,(0,(e,()))))]) (bI f)) (cond (lZ (dC (bI f)) (bT f [(g,(d,(0,(e,()))))])) (a6 ((h,((di .i64 d 1),((gX (bT f [(g,(d,(0,(e,()))))]) (dC (bI f)) ((dJ (bT f [(g,(d,(0,(e,()))))]) (0,(0,(0,(0,())))) (dC (bI f))).1,((dJ (bT f [(g,(d,(0,(e,()))))]) (0,(0,(0,(0,())))) (dC (bI f))).2.1,((di .i64 d 1),((dJ (bT f [(g,(d,(0,(e,()))))]) (0,(0,(0,(0,())))) (dC (bI f))).2.2.2.1,()))))),(e,(i,()))))),())) a7) a7) a7) a7) a7) a7) a7) a7) a7) a7
def amq:fZ:=⟨90,GH,[dA],[],fun x y=>SS x.1 x.2.1 x.2.2.1 x.2.2.2.1 x.2.2.2.2.1 y.1⟩
theorem Lr:dW prog 72 amq:=qB [(72,600001,aD1),(41,600003,jO)] aN
def Oo (d:List gu) (e:Int) (f:List gJ) (g h:Int):Option (taE×pq):=cond (gV e (bI d)) (cond (fD d e) (a6 ((d,(e,(f,(g,(h,()))))),((bP (dw d (0,([],(0,(0,())))) e).1 6),()))) a7)<|some ((d,(e,(f,(g,(h,()))))),(false,()))
def acn:fZ:=⟨90,GH,[],[.bool],fun x y=>Oo x.1 x.2.1 x.2.2.1 x.2.2.2.1 x.2.2.2.2.1⟩
theorem Gs:dW prog 261 acn:=qB [] aN
def Om (f:List gu) (g:Int) (h:List gJ) (i j:Int):Option AV:=bH (Oo f g h i j) fun d=>cond d.2.1 (bH (SS d.1.1 d.1.2.1 d.1.2.2.1 d.1.2.2.2.1 d.1.2.2.2.2.1 7) fun e=>a6 ((e.1.1,(e.1.2.1,(e.1.2.2.1,(e.1.2.2.2.1,(e.1.2.2.2.2.1,()))))),()))<|bH (xR d.1.1 d.1.2.1 d.1.2.2.1 d.1.2.2.2.1 d.1.2.2.2.2.1) fun e=>a6 ((e.1.1,(e.1.2.1,(e.1.2.2.1,(e.1.2.2.2.1,(e.1.2.2.2.2.1,()))))),())
def acm:fZ:=⟨90,GH,[],[],fun x y=>Om x.1 x.2.1 x.2.2.1 x.2.2.2.1 x.2.2.2.2.1⟩
theorem Gq:dW prog 259 acm:=qB [] aN (sF Lr (sF sK (sF Gs aN)))
def ajM:eQ:=⟨[1],[],[],[],[],[]⟩
def zS (h:List gu) (i:Int) (j:List gJ) (l o:Int):Option (taE×pq):=bH (adn h i j l o) fun d=>cond (!d.2.1) (a6 ((d.1.1,(d.1.2.1,(d.1.2.2.1,(d.1.2.2.2.1,(d.1.2.2.2.2.1,()))))),(false,())))<|cond (bP 8 8) (cond (bP d.1.2.1 d.1.2.1) (cond (bP d.1.2.2.2.1 d.1.2.2.2.1) (cond (dY (bT d.1.2.2.1 [(8,(d.1.2.1,(0,(d.1.2.2.2.1,()))))]) 32) (cond (bP 8 8) (cond (bP d.1.2.1 d.1.2.1) (cond (bP d.1.2.2.2.1 d.1.2.2.2.1) (cond ((bP 8 8)&&((bP d.1.2.1 d.1.2.1)&&((bP 0 0)&&((bP d.1.2.2.2.1 d.1.2.2.2.1)&&true)))) (bH (rD d.1.1 d.1.2.1 (bT d.1.2.2.1 [(8,(d.1.2.1,(0,(d.1.2.2.2.1,()))))]) (bI d.1.2.2.1) d.1.2.2.2.2.1 [35]) fun f=>bH (rD f.1.1 f.1.2.1 f.1.2.2.1 f.1.2.2.2.1 f.1.2.2.2.2.1 [60]) fun g=>bH (Om g.1.1 g.1.2.1 g.1.2.2.1 g.1.2.2.2.1 g.1.2.2.2.2.1) fun e=>cond (fD e.1.2.2.1 (bI d.1.2.2.1)) (cond (lZ (dC (bI d.1.2.2.1)) e.1.2.2.1) (a6 ((e.1.1,(e.1.2.1,((gX e.1.2.2.1 (dC (bI d.1.2.2.1)) ((dJ e.1.2.2.1 (0,(0,(0,(0,())))) (dC (bI d.1.2.2.1))).1,((dJ e.1.2.2.1 (0,(0,(0,(0,())))) (dC (bI d.1.2.2.1))).2.1,(e.1.2.1,((dJ e.1.2.2.1 (0,(0,(0,(0,())))) (dC (bI d.1.2.2.1))).2.2.2.1,()))))),(d.1.2.2.2.1,(e.1.2.2.2.2.1,()))))),(true,()))) a7) a7) a7) a7) a7) a7) a7) a7) a7) a7
def aij:fZ:=⟨90,GH,[],[.bool],fun x y=>zS x.1 x.2.1 x.2.2.1 x.2.2.2.1 x.2.2.2.2.1⟩
theorem XJ:dW prog 258 aij:=qB [(258,600003,ajM),(41,600003,jO)] aN (sF ni (sF XA (sF Gq aN)))
def ajr (d:bZ):Option (bZ×bZ×Bool×Unit):=bH (agH d 0) fun e=>cond (bP e.1 0) (a6 ([],([],(false,()))))<|cond (bP e.1 (bI d)) (a6 ([],([],(false,()))))<|cond (fD d e.1) (cond (!(bP (bY d e.1) 61)) (a6 ([],([],(false,()))))<|cond (fE (bI d) 0 e.1) (cond (fE (bI d) (di .i64 e.1 1) (bI d)) (a6 ((sub d 0 e.1),((sub d (di .i64 e.1 1) (bI d)),(true,())))) a7) a7) a7
def aGD:Sum:=⟨[.str],[(.str,false),(.str,false),(.bool,false)],fun x=>ajr x.1⟩
theorem apG:dU prog 272 aGD:=qA f272 [] (sE U0 aN)
def ajp (d:bZ):Option pq:=bH (ajr d) fun e=>a6 (e.2.2.1,())
def axa:Sum:=⟨[.str],NZ,fun x=>ajp x.1⟩
theorem apD:dU prog 262 axa:=qA f262 [] (sE apG aN)
noncomputable def aDg:Code:=(f223.body).getD .skip
noncomputable def aqE:Code:=cA (cA (cB (cB (cA (aDg)))))
def atH:eQ:=⟨[0,2,100003],[],[],[],[],[]⟩
def ZR:SQ:=⟨us [co,.u,ca] 28,c9,dq⟩
def aaB:SQ:=⟨us [] 31,c9,dq⟩
def abf:SQ:=⟨us [] 31,c9,[]⟩
def QN {h:Type} (i:Bool->(List gu)->Int->Int->Int->(List gJ)->Option h) (l:(List gu)->Int->Int->Int->(List gJ)->Option h) (v:Option h) (j:Bool) (o:List gu) (p q s:Int) (u:List gJ):Option h:=bH (zS o p u q s) fun e=>cond e.2.1 (i j e.1.1 e.1.2.1 e.1.2.2.2.1 e.1.2.2.2.2.1 e.1.2.2.1)<|bH (Oo e.1.1 e.1.2.1 e.1.2.2.1 e.1.2.2.2.1 e.1.2.2.2.2.1) fun d=>cond (!d.2.1) (l d.1.1 d.1.2.1 d.1.2.2.2.1 d.1.2.2.2.2.1 d.1.2.2.1)<|cond (!j) (cond (fD d.1.1 d.1.2.1) (bH (ajp (dw d.1.1 (0,([],(0,(0,())))) d.1.2.1).2.1) fun g=>cond g.1 (bH (SS d.1.1 d.1.2.1 d.1.2.2.1 d.1.2.2.2.1 d.1.2.2.2.2.1 6) fun f=>i j f.1.1 f.1.2.1 f.1.2.2.2.1 f.1.2.2.2.2.1 f.1.2.2.1)<|bH (SS d.1.1 d.1.2.1 d.1.2.2.1 d.1.2.2.2.1 d.1.2.2.2.2.1 7) fun f=>i true f.1.1 f.1.2.1 f.1.2.2.2.1 f.1.2.2.2.2.1 f.1.2.2.1) a7)<|bH (SS d.1.1 d.1.2.1 d.1.2.2.1 d.1.2.2.2.1 d.1.2.2.2.2.1 7) fun g=>i true g.1.1 g.1.2.1 g.1.2.2.2.1 g.1.2.2.2.2.1 g.1.2.2.1
def FH:Nat->Bool->(List gu)->Int->Int->Int->(List gJ)->Option (aaB.den⊕abf.den)
 |0,_,_,_,_,_,_=>a7
 |n+1,d,e,f,g,h,i=>QN (FH n) (fun j l o p q=>a6 (.inl ((),((),()),((j,l,o,p,()),q,())))) (a6 (.inr ((),((),()),()))) d e f g h i
def azD (n:Nat) (v:ZR.den):=bk (FH n) v
noncomputable def aki:dE:=fF atH ZR aaB abf (.exit 0) (azD bM) 6
def ajf (e:List gu) (f:Int) (g:List gJ) (h i:Int):Option AV:=bH (FH bM false e f h i g) fun j=>dN j (fun d=>a6 ((d.2.2.1.1,(d.2.2.1.2.1,(d.2.2.2.1,(d.2.2.1.2.2.1,(d.2.2.1.2.2.2.1,()))))),())) (fun l=>a7)
def awZ:fZ:=⟨90,GH,[],[],fun x y=>ajf x.1 x.2.1 x.2.2.1 x.2.2.2.1 x.2.2.2.2.1⟩
noncomputable def agj:Env:=gB prog tt [(262,axa)] [(223,3,atH)] [(223,3,aki)] [] [(72,amq),(258,aij),(261,acn)]
def alH {d:Type} (a:ZR.den->Option d) (b:aaB.den->Option d) (c:abf.den->Option d) (v:ZR.den):Option d:=bk (QN (bj a) (bl b) (c ((),((),()),()))) v
theorem aAs:dQ agj 223 aqE aki:=lu (alH) (h2:=by intros;simp only[alH,bj,bl,bk,QN,cO,cZ,bG,bW,dh])
theorem aEB:dM agj 223 aDg:=nV [aqE] (aD (fM (aAs)) aN)
theorem anj:eu agj:=eB (aD apD aN) [223] (aD ⟨f223,aDg,by kernel_rfl,by kernel_rfl,aEB⟩ aN) (hx:=(aD Lr (aD XJ (aD Gs aN))))
theorem apq:dW prog 223 awZ:=sB anj
def rG (f:List gu) (g:Int) (h:List gJ) (i j:Int) (l:bZ):Option AV:=bH (rD f g h i j l) fun d=>cond (!d.2.1) (bH (xR d.1.1 d.1.2.1 d.1.2.2.1 d.1.2.2.2.1 d.1.2.2.2.2.1) fun e=>a6 ((e.1.1,(e.1.2.1,(e.1.2.2.1,(e.1.2.2.2.1,(e.1.2.2.2.2.1,()))))),()))<|some ((d.1.1,(d.1.2.1,(d.1.2.2.1,(d.1.2.2.2.1,(d.1.2.2.2.2.1,()))))),())
def EF:fZ:=⟨90,GH,[.str],[],fun x y=>rG x.1 x.2.1 x.2.2.1 x.2.2.2.1 x.2.2.2.2.1 y.1⟩
theorem sN:dW prog 260 EF:=qB [] aN (sF ni (sF sK aN))
structure iE where
 q71:(List gu)->Int->(List gJ)->Int->Int->Option AV
 q105:(List gu)->Int->(List gJ)->Int->Int->Option AV
 q148:(List gu)->Int->(List gJ)->Int->Int->Option AV
 q177:(List gu)->Int->(List gJ)->Int->Int->Option AV
 q222:(List gu)->Int->(List gJ)->Int->Int->Option AV
 q219:(List gu)->Int->(List gJ)->Int->Int->Option AV
 q268:(List gu)->Int->(List gJ)->Int->Int->Option AV
 q251:(List gu)->Int->(List gJ)->Int->Int->Option AV
 q252:(List gu)->Int->(List gJ)->Int->Int->Option AV
 q253:(List gu)->Int->(List gJ)->Int->Int->Option AV
 q254:(List gu)->Int->(List gJ)->Int->Int->Option AV
 q255:(List gu)->Int->(List gJ)->Int->Int->Option AV
 q256:(List gu)->Int->(List gJ)->Int->Int->Option AV
 q270:(List gu)->Int->(List gJ)->Int->Int->Option AV
 q269:(List gu)->Int->(List gJ)->Int->Int->Option AV
def ail (q:iE):fZ:=⟨90,GH,[],[],fun x y=>q.q71 x.1 x.2.1 x.2.2.1 x.2.2.2.1 x.2.2.2.2.1⟩
def al6 (q:iE):fZ:=⟨90,GH,[],[],fun x y=>q.q105 x.1 x.2.1 x.2.2.1 x.2.2.2.1 x.2.2.2.2.1⟩
def al8 (q:iE):fZ:=⟨90,GH,[],[],fun x y=>q.q148 x.1 x.2.1 x.2.2.1 x.2.2.2.1 x.2.2.2.2.1⟩
def ama (q:iE):fZ:=⟨90,GH,[],[],fun x y=>q.q177 x.1 x.2.1 x.2.2.1 x.2.2.2.1 x.2.2.2.2.1⟩
def amc (q:iE):fZ:=⟨90,GH,[],[],fun x y=>q.q222 x.1 x.2.1 x.2.2.1 x.2.2.2.1 x.2.2.2.2.1⟩
def acj (q:iE):fZ:=⟨90,GH,[],[],fun x y=>q.q219 x.1 x.2.1 x.2.2.1 x.2.2.2.1 x.2.2.2.2.1⟩
def Gt (q:iE):fZ:=⟨90,GH,[],[],fun x y=>q.q268 x.1 x.2.1 x.2.2.1 x.2.2.2.1 x.2.2.2.2.1⟩
def amf (q:iE):fZ:=⟨90,GH,[],[],fun x y=>q.q251 x.1 x.2.1 x.2.2.1 x.2.2.2.1 x.2.2.2.2.1⟩
def amg (q:iE):fZ:=⟨90,GH,[],[],fun x y=>q.q252 x.1 x.2.1 x.2.2.1 x.2.2.2.1 x.2.2.2.2.1⟩
def amh (q:iE):fZ:=⟨90,GH,[],[],fun x y=>q.q253 x.1 x.2.1 x.2.2.1 x.2.2.2.1 x.2.2.2.2.1⟩
def ami (q:iE):fZ:=⟨90,GH,[],[],fun x y=>q.q254 x.1 x.2.1 x.2.2.1 x.2.2.2.1 x.2.2.2.2.1⟩
def amj (q:iE):fZ:=⟨90,GH,[],[],fun x y=>q.q255 x.1 x.2.1 x.2.2.1 x.2.2.2.1 x.2.2.2.2.1⟩
def amk (q:iE):fZ:=⟨90,GH,[],[],fun x y=>q.q256 x.1 x.2.1 x.2.2.1 x.2.2.2.1 x.2.2.2.2.1⟩
def aml (q:iE):fZ:=⟨90,GH,[],[],fun x y=>q.q270 x.1 x.2.1 x.2.2.1 x.2.2.2.1 x.2.2.2.2.1⟩
def aco (q:iE):fZ:=⟨90,GH,[],[],fun x y=>q.q269 x.1 x.2.1 x.2.2.1 x.2.2.2.1 x.2.2.2.2.1⟩
noncomputable def b71:Code:=(f71.body).getD .skip
noncomputable def aBt:Code:=cA (cA (cB (cA (b71))))
def aBW:eQ:=⟨[0,100000],[],[],[],[],[]⟩
def akW:SQ:=⟨us bN 15,c9,dq⟩
def ahw:SQ:=⟨us [] 16,c9,dq⟩
def ahS:SQ:=⟨us [] 16,c9,[]⟩
def ab9 (q:iE) {l:Type} (p o:(List gu)->Int->Int->Int->(List gJ)->Option l) (v:Option l) (s:List gu) (h i u:Int) (j:List gJ):Option l:=cond (bP 3 3) (cond (bP h h) (cond (bP i i) (cond (dY (bT j [(3,(h,(0,(i,()))))]) 32) (cond (bP 3 3) (cond (bP h h) (cond (bP i i) (cond ((bP 3 3)&&((bP h h)&&((bP 0 0)&&((bP i i)&&true)))) (bH (q.q105 s h (bT j [(3,(h,(0,(i,()))))]) (bI j) u) fun g=>cond (fD g.1.2.2.1 (bI j)) (cond (lZ (dC (bI j)) g.1.2.2.1) (bH (rD g.1.1 g.1.2.1 (gX g.1.2.2.1 (dC (bI j)) ((dJ g.1.2.2.1 (0,(0,(0,(0,())))) (dC (bI j))).1,((dJ g.1.2.2.1 (0,(0,(0,(0,())))) (dC (bI j))).2.1,(g.1.2.1,((dJ g.1.2.2.1 (0,(0,(0,(0,())))) (dC (bI j))).2.2.2.1,()))))) i g.1.2.2.2.2.1 [59,38]) fun f=>cond f.2.1 (bH (pJ f.1.1 f.1.2.1 f.1.2.2.1 f.1.2.2.2.1 f.1.2.2.2.2.1) fun e=>bH (YL e.1.1 e.1.2.1 e.1.2.2.1 e.1.2.2.2.1 e.1.2.2.2.2.1) fun d=>cond (!d.2.1) (o d.1.1 d.1.2.1 d.1.2.2.2.1 d.1.2.2.2.2.1 d.1.2.2.1)<|p d.1.1 d.1.2.1 d.1.2.2.2.1 d.1.2.2.2.2.1 d.1.2.2.1)<|bH (pJ f.1.1 f.1.2.1 f.1.2.2.1 f.1.2.2.2.1 f.1.2.2.2.2.1) fun e=>cond (!e.2.1) (o e.1.1 e.1.2.1 e.1.2.2.2.1 e.1.2.2.2.2.1 e.1.2.2.1)<|bH (YL e.1.1 e.1.2.1 e.1.2.2.1 e.1.2.2.2.1 e.1.2.2.2.2.1) fun d=>cond (!d.2.1) (o d.1.1 d.1.2.1 d.1.2.2.2.1 d.1.2.2.2.2.1 d.1.2.2.1)<|p d.1.1 d.1.2.1 d.1.2.2.2.1 d.1.2.2.2.2.1 d.1.2.2.1) a7) a7) a7) a7) a7) a7) a7) a7) a7) a7
def D5 (q:iE):Nat->(List gu)->Int->Int->Int->(List gJ)->Option (ahw.den⊕ahS.den)
 |0,_,_,_,_,_=>a7
 |n+1,d,e,f,g,h=>ab9 q (D5 q n) (fun i j l o p=>a6 (.inl ((),((),()),((i,j,l,o,()),p,())))) (a6 (.inr ((),((),()),()))) d e f g h
def aE6 (q:iE) (n:Nat) (v:akW.den):=bm (D5 q n) v
noncomputable def auJ (q:iE):dE:=fF aBW akW ahw ahS (.exit 0) (aE6 q bM) 6
def aDL (q:iE) (e:List gu) (f:Int) (g:List gJ) (h i:Int):Option AV:=bH (D5 q bM e f h i g) fun j=>dN j (fun d=>a6 ((d.2.2.1.1,(d.2.2.1.2.1,(d.2.2.2.1,(d.2.2.1.2.2.1,(d.2.2.1.2.2.2.1,()))))),())) (fun l=>a7)
noncomputable def arT (q:iE):Env:=gB prog tt [] [(71,0,aBW),(71,600000,vz),(41,600003,jO)] [(71,0,auJ q)] [] [(69,EK),(70,XM),(105,al6 q),(106,CP)]
def avT (q:iE) {d:Type} (a:akW.den->Option d) (b:ahw.den->Option d) (c:ahS.den->Option d) (v:akW.den):Option d:=bm (ab9 q (bl a) (bl b) (c ((),((),()),()))) v
theorem aFC (q:iE):dQ (arT q) 71 aBt (auJ q):=lu (avT q) (h2:=by intros;simp only[avT,bl,bm,ab9,cO,cZ,bG,bW,dh])
theorem aIk (q:iE):dM (arT q) 71 b71:=nV [aBt] (aD (fM (aFC q)) aN)
abbrev H71 (q:iE):Prop:=dW prog 71 (ail q)/\dW prog 105 (al6 q)/\dW prog 148 (al8 q)/\dW prog 177 (ama q)/\dW prog 222 (amc q)/\dW prog 219 (acj q)/\dW prog 268 (Gt q)/\dW prog 251 (amf q)/\dW prog 252 (amg q)/\dW prog 253 (amh q)/\dW prog 254 (ami q)/\dW prog 255 (amj q)/\dW prog 256 (amk q)/\dW prog 270 (aml q)/\dW prog 269 (aco q)
theorem arU (q:iE) (H:H71 q):eu (arT q):=eB aN [71] (aD ⟨f71,b71,by kernel_rfl,by kernel_rfl,aIk q⟩ aN) (hx:=(aD ni (aD EL (aD H.2.1 (aD qM aN)))))
noncomputable def aC8:Code:=(f105.body).getD .skip
noncomputable def aqc:Code:=cA (cA (cB (aC8)))
def ati:eQ:=⟨[0,100001],[],[],[],[],[]⟩
def Zn:SQ:=⟨us bN 9,c9,dq⟩
def aad:SQ:=⟨us [] 10,c9,dq⟩
def aaQ:SQ:=⟨us [] 10,c9,[]⟩
def Qp (q:iE) {g:Type} (h i:(List gu)->Int->Int->Int->(List gJ)->Option g) (u:Option g) (j:List gu) (l o p:Int) (s:List gJ):Option g:=bH (rD j l s o p [97,111]) fun d=>cond d.2.1 (bH (pJ d.1.1 d.1.2.1 d.1.2.2.1 d.1.2.2.2.1 d.1.2.2.2.2.1) fun e=>bH (q.q148 e.1.1 e.1.2.1 e.1.2.2.1 e.1.2.2.2.1 e.1.2.2.2.2.1) fun f=>h f.1.1 f.1.2.1 f.1.2.2.2.1 f.1.2.2.2.2.1 f.1.2.2.1)<|i d.1.1 d.1.2.1 d.1.2.2.2.1 d.1.2.2.2.2.1 d.1.2.2.1
def JU (q:iE):Nat->(List gu)->Int->Int->Int->(List gJ)->Option (aad.den⊕aaQ.den)
 |0,_,_,_,_,_=>a7
 |n+1,d,e,f,g,h=>Qp q (JU q n) (fun i j l o p=>a6 (.inl ((),((),()),((i,j,l,o,()),p,())))) (a6 (.inr ((),((),()),()))) d e f g h
def azb (q:iE) (n:Nat) (v:Zn.den):=bm (JU q n) v
noncomputable def ajP (q:iE):dE:=fF ati Zn aad aaQ (.exit 0) (azb q bM) 6
def asn (q:iE) (f:List gu) (g:Int) (h:List gJ) (i j:Int):Option AV:=bH (q.q148 f g h i j) fun d=>bH (JU q bM d.1.1 d.1.2.1 d.1.2.2.2.1 d.1.2.2.2.2.1 d.1.2.2.1) fun l=>dN l (fun e=>a6 ((e.2.2.1.1,(e.2.2.1.2.1,(e.2.2.2.1,(e.2.2.1.2.2.1,(e.2.2.1.2.2.2.1,()))))),())) (fun o=>a7)
noncomputable def afW (q:iE):Env:=gB prog tt [] [(105,1,ati)] [(105,1,ajP q)] [] [(69,EK),(106,CP),(148,al8 q)]
def alc (q:iE) {d:Type} (a:Zn.den->Option d) (b:aad.den->Option d) (c:aaQ.den->Option d) (v:Zn.den):Option d:=bm (Qp q (bl a) (bl b) (c ((),((),()),()))) v
theorem az0 (q:iE):dQ (afW q) 105 aqc (ajP q):=lu (alc q) (h2:=by intros;simp only[alc,bl,bm,Qp,cO,cZ,bG,bW,dh])
theorem aEa (q:iE):dM (afW q) 105 aC8:=nV [aqc] (aD (fM (az0 q)) aN)
theorem amM (q:iE) (H:H71 q):eu (afW q):=eB aN [105] (aD ⟨f105,aC8,by kernel_rfl,by kernel_rfl,aEa q⟩ aN) (hx:=(aD ni (aD qM (aD H.2.2.1 aN))))
noncomputable def Rn:Code:=(f176.body).getD .skip
noncomputable def RG:Code:=cA (cA (cB (cB (Rn))))
def Tu:eQ:=⟨[0,177000002],[],[],[],[],[]⟩
def BX:SQ:=⟨us [cI] 10,bX,[cq,bL,ct]⟩
def Eh:SQ:=⟨us [] 11,bX,[cq,bL,ct]⟩
def Ep:SQ:=⟨us [] 11,bX,[]⟩
def yI (q:iE) {g:Type} (j l:Int->Int->(List gu)->Int->Int->Int->(List gJ)->Option g) (x:Int->Int->Option g) (h i:Int) (o:List gu) (p s u:Int) (v:List gJ):Option g:=bH (rD o p v s u [124]) fun d=>cond d.2.1 (bH (pJ d.1.1 d.1.2.1 d.1.2.2.1 d.1.2.2.2.1 d.1.2.2.2.2.1) fun e=>bH (q.q177 e.1.1 e.1.2.1 e.1.2.2.1 e.1.2.2.2.1 e.1.2.2.2.2.1) fun f=>j h i f.1.1 f.1.2.1 f.1.2.2.2.1 f.1.2.2.2.2.1 f.1.2.2.1)<|l h i d.1.1 d.1.2.1 d.1.2.2.2.1 d.1.2.2.2.2.1 d.1.2.2.1
def uA (q:iE):Nat->Int->Int->(List gu)->Int->Int->Int->(List gJ)->Option (Eh.den⊕Ep.den)
 |0,_,_,_,_,_,_,_=>a7
 |n+1,d,e,f,g,h,i,j=>yI q (uA q n) (fun l o p s u v x=>a6 (.inl ((),((l,o,()),(),(),()),((),(p,s,u,v,()),x,())))) (fun y z=>a6 (.inr ((),((y,z,()),(),(),()),()))) d e f g h i j
def aej (q:iE) (n:Nat) (v:BX.den):=uA q n v.2.1.1.1 v.2.1.1.2.1 v.2.2.2.1.1 v.2.2.2.1.2.1 v.2.2.2.1.2.2.1 v.2.2.2.1.2.2.2.1 v.2.2.2.2.1
noncomputable def OJ (q:iE):dE:=fF Tu BX Eh Ep (.exit 0) (aej q bM) 6
def ac7 (q:iE) (h:List gu) (i:Int) (j:List gJ) (l o:Int):Option AV:=bH (YL h i j l o) fun d=>cond (!d.2.1) (bH (xR d.1.1 d.1.2.1 d.1.2.2.1 d.1.2.2.2.1 d.1.2.2.2.2.1) fun f=>a6 ((f.1.1,(f.1.2.1,(f.1.2.2.1,(f.1.2.2.2.1,(f.1.2.2.2.2.1,()))))),()))<|cond (bP 4 4) (cond (bP d.1.2.1 d.1.2.1) (cond (bP d.1.2.2.2.1 d.1.2.2.2.1) (cond (dY (bT d.1.2.2.1 [(4,(d.1.2.1,(0,(d.1.2.2.2.1,()))))]) 32) (cond (bP 4 4) (cond (bP d.1.2.1 d.1.2.1) (cond (bP d.1.2.2.2.1 d.1.2.2.2.1) (cond ((bP 4 4)&&((bP d.1.2.1 d.1.2.1)&&((bP 0 0)&&((bP d.1.2.2.2.1 d.1.2.2.2.1)&&true)))) (bH (rD d.1.1 d.1.2.1 (bT d.1.2.2.1 [(4,(d.1.2.1,(0,(d.1.2.2.2.1,()))))]) (bI d.1.2.2.1) d.1.2.2.2.2.1 [33]) fun f=>bH (q.q177 f.1.1 f.1.2.1 f.1.2.2.1 f.1.2.2.2.1 f.1.2.2.2.2.1) fun g=>bH (uA q bM (bI d.1.2.2.1) d.1.2.2.2.1 g.1.1 g.1.2.1 g.1.2.2.2.1 g.1.2.2.2.2.1 g.1.2.2.1) fun p=>dN p (fun e=>cond (fD e.2.2.2.2.1 e.2.1.1.1) (cond (lZ (dC e.2.1.1.1) e.2.2.2.2.1) (a6 ((e.2.2.2.1.1,(e.2.2.2.1.2.1,((gX e.2.2.2.2.1 (dC e.2.1.1.1) ((dJ e.2.2.2.2.1 (0,(0,(0,(0,())))) (dC e.2.1.1.1)).1,((dJ e.2.2.2.2.1 (0,(0,(0,(0,())))) (dC e.2.1.1.1)).2.1,(e.2.2.2.1.2.1,((dJ e.2.2.2.2.1 (0,(0,(0,(0,())))) (dC e.2.1.1.1)).2.2.2.1,()))))),(e.2.1.1.2.1,(e.2.2.2.1.2.2.2.1,()))))),())) a7) a7) (fun s=>a7)) a7) a7) a7) a7) a7) a7) a7) a7
noncomputable def aga (q:iE):Env:=gB prog tt [] [(176,2,Tu),(148,600003,ajM),(41,600003,jO)] [(176,2,OJ q)] [] [(69,EK),(70,XM),(106,CP),(175,NQ),(177,ama q)]
def Pj (q:iE) {d:Type} (a:BX.den->Option d) (b:Eh.den->Option d) (c:Ep.den->Option d) (v:BX.den):Option d:=yI q (fun e f g h i j l=>a ((),((e,f,()),(),(),()),((),(g,h,i,j,()),l,()))) (fun o p s u x y z=>b ((),((o,p,()),(),(),()),((),(s,u,x,y,()),z,()))) (fun A B=>c ((),((A,B,()),(),(),()),())) v.2.1.1.1 v.2.1.1.2.1 v.2.2.2.1.1 v.2.2.2.1.2.1 v.2.2.2.1.2.2.1 v.2.2.2.1.2.2.2.1 v.2.2.2.2.1
theorem aeH (q:iE):dQ (aga q) 176 RG (OJ q):=lu (Pj q) (h2:=by intros;simp only[Pj,yI,cO,cZ,bG,bW,dh])
theorem ag3 (q:iE):dM (aga q) 176 Rn:=nV [RG] (aD (fM (aeH q)) aN)
theorem am2 (q:iE) (H:H71 q):eu (aga q):=eB aN [176] (aD ⟨f176,Rn,by kernel_rfl,by kernel_rfl,ag3 q⟩ aN) (hx:=(aD ni (aD EL (aD qM (aD sK (aD H.2.2.2.1 aN))))))
def OA:eQ:=⟨[0,1,2],[],[],[],[],[]⟩
def asr (q:iE) (h:List gu) (i:Int) (j:List gJ) (l o:Int):Option AV:=bH (Wq h i j l o) fun g=>cond g.2.1 (bH (q.q219 g.1.1 g.1.2.1 g.1.2.2.1 g.1.2.2.2.1 g.1.2.2.2.2.1) fun e=>a6 ((e.1.1,(e.1.2.1,(e.1.2.2.1,(e.1.2.2.2.1,(e.1.2.2.2.2.1,()))))),()))<|bH (aje g.1.1 g.1.2.1 g.1.2.2.1 g.1.2.2.2.1 g.1.2.2.2.2.1) fun e=>cond e.2.1 (cond (bP 16 16) (cond (bP e.1.2.1 e.1.2.1) (cond (bP e.1.2.2.2.1 e.1.2.2.2.1) (cond (dY (bT e.1.2.2.1 [(16,(e.1.2.1,(0,(e.1.2.2.2.1,()))))]) 32) (cond (bP 16 16) (cond (bP e.1.2.1 e.1.2.1) (cond (bP e.1.2.2.2.1 e.1.2.2.2.1) (cond ((bP 16 16)&&((bP e.1.2.1 e.1.2.1)&&((bP 0 0)&&((bP e.1.2.2.2.1 e.1.2.2.2.1)&&true)))) (bH (q.q222 e.1.1 e.1.2.1 (bT e.1.2.2.1 [(16,(e.1.2.1,(0,(e.1.2.2.2.1,()))))]) (bI e.1.2.2.1) (di .i64 e.1.2.2.2.2.1 1)) fun d=>cond (fD d.1.2.2.1 (bI e.1.2.2.1)) (cond (lZ (dC (bI e.1.2.2.1)) d.1.2.2.1) (a6 ((d.1.1,(d.1.2.1,((gX d.1.2.2.1 (dC (bI e.1.2.2.1)) ((dJ d.1.2.2.1 (0,(0,(0,(0,())))) (dC (bI e.1.2.2.1))).1,((dJ d.1.2.2.1 (0,(0,(0,(0,())))) (dC (bI e.1.2.2.1))).2.1,(d.1.2.1,((dJ d.1.2.2.1 (0,(0,(0,(0,())))) (dC (bI e.1.2.2.1))).2.2.2.1,()))))),(e.1.2.2.2.1,((eU .i64 d.1.2.2.2.2.1 1),()))))),())) a7) a7) a7) a7) a7) a7) a7) a7) a7) a7)<|bH (ada e.1.1 e.1.2.1 e.1.2.2.1 e.1.2.2.2.1 e.1.2.2.2.2.1) fun d=>cond d.2.1 (cond (bP 5 5) (cond (bP d.1.2.1 d.1.2.1) (cond (bP d.1.2.2.2.1 d.1.2.2.2.1) (cond (dY (bT d.1.2.2.1 [(5,(d.1.2.1,(0,(d.1.2.2.2.1,()))))]) 32) (cond (bP 5 5) (cond (bP d.1.2.1 d.1.2.1) (cond (bP d.1.2.2.2.1 d.1.2.2.2.1) (cond ((bP 5 5)&&((bP d.1.2.1 d.1.2.1)&&((bP 0 0)&&((bP d.1.2.2.2.1 d.1.2.2.2.1)&&true)))) (bH (ajf d.1.1 d.1.2.1 (bT d.1.2.2.1 [(5,(d.1.2.1,(0,(d.1.2.2.2.1,()))))]) (bI d.1.2.2.1) d.1.2.2.2.2.1) fun f=>cond (fD f.1.2.2.1 (bI d.1.2.2.1)) (cond (lZ (dC (bI d.1.2.2.1)) f.1.2.2.1) (a6 ((f.1.1,(f.1.2.1,((gX f.1.2.2.1 (dC (bI d.1.2.2.1)) ((dJ f.1.2.2.1 (0,(0,(0,(0,())))) (dC (bI d.1.2.2.1))).1,((dJ f.1.2.2.1 (0,(0,(0,(0,())))) (dC (bI d.1.2.2.1))).2.1,(f.1.2.1,((dJ f.1.2.2.1 (0,(0,(0,(0,())))) (dC (bI d.1.2.2.1))).2.2.2.1,()))))),(d.1.2.2.2.1,(f.1.2.2.2.2.1,()))))),())) a7) a7) a7) a7) a7) a7) a7) a7) a7) a7)<|bH (xR d.1.1 d.1.2.1 d.1.2.2.1 d.1.2.2.2.1 d.1.2.2.2.2.1) fun f=>a6 ((f.1.1,(f.1.2.1,(f.1.2.2.1,(f.1.2.2.2.1,(f.1.2.2.2.2.1,()))))),())
noncomputable def aDt (q:iE):Env:=gB prog tt [] [(177,600004,vz),(177,600006,vz),(41,600003,jO),(221,600001,OA)] [] [] [(104,awj),(147,aig),(175,NQ),(219,acj q),(220,awY),(222,amc q),(223,awZ)]
theorem am8 (q:iE) (H:H71 q):eu (aDt q):=eB aN [] aN (hx:=(aD Xt (aD NK (aD sK (aD H.2.2.2.2.2.1 (aD apo (aD H.2.2.2.2.1 (aD apq aN))))))))
def ass (q:iE) (j:List gu) (l:Int) (o:List gJ) (p s:Int):Option AV:=bH (Om j l o p s) fun f=>bH (rD f.1.1 f.1.2.1 f.1.2.2.1 f.1.2.2.2.1 f.1.2.2.2.2.1 [40]) fun g=>bH (rG g.1.1 g.1.2.1 g.1.2.2.1 g.1.2.2.2.1 g.1.2.2.2.2.1 [41]) fun h=>bH (pJ h.1.1 h.1.2.1 h.1.2.2.1 h.1.2.2.2.1 h.1.2.2.2.2.1) fun i=>bH (Wq i.1.1 i.1.2.1 i.1.2.2.1 i.1.2.2.2.1 i.1.2.2.2.2.1) fun d=>cond d.2.1 (bH (q.q219 d.1.1 d.1.2.1 d.1.2.2.1 d.1.2.2.2.1 d.1.2.2.2.2.1) fun e=>a6 ((e.1.1,(e.1.2.1,(e.1.2.2.1,(e.1.2.2.2.1,(e.1.2.2.2.2.1,()))))),()))<|bH (xR d.1.1 d.1.2.1 d.1.2.2.1 d.1.2.2.2.1 d.1.2.2.2.2.1) fun e=>a6 ((e.1.1,(e.1.2.1,(e.1.2.2.1,(e.1.2.2.2.1,(e.1.2.2.2.2.1,()))))),())
noncomputable def aDu (q:iE):Env:=gB prog tt [] [] [] [] [(69,EK),(106,CP),(147,aig),(175,NQ),(219,acj q),(259,acm),(260,EF)]
theorem ani (q:iE) (H:H71 q):eu (aDu q):=eB aN [] aN (hx:=(aD ni (aD qM (aD NK (aD sK (aD H.2.2.2.2.2.1 (aD Gq (aD sN aN))))))))
noncomputable def Ro:Code:=(f257.body).getD .skip
noncomputable def og:Code:=cA (cA (cB (cB (Ro))))
def qx:eQ:=⟨[0,258000002],[],[],[],[],[]⟩
def atY:eQ:=⟨[1,2,3],[],[],[],[],[]⟩
def BZ:SQ:=⟨eS,bB,ek⟩
def Ei:SQ:=⟨d6,bB,ek⟩
def Es:SQ:=⟨d6,bB,[]⟩
def uK (q:iE) {e:Type} (o p:Int->Int->Int->Int->Int->Int->(List gJ)->(List gu)->Int->Int->Int->Option e) (z:Int->Int->Int->Int->Int->Int->Option e) (f g h i j l:Int) (s:List gJ) (u:List gu) (v x y:Int):Option e:=bH (zS u v s x y) fun d=>cond d.2.1 (o f g h i j l d.1.2.2.1 d.1.1 d.1.2.1 d.1.2.2.2.1 d.1.2.2.2.2.1)<|p f g h i j l d.1.2.2.1 d.1.1 d.1.2.1 d.1.2.2.2.1 d.1.2.2.2.2.1
def ou (q:iE):Nat->Int->Int->Int->Int->Int->Int->(List gJ)->(List gu)->Int->Int->Int->Option (Ei.den⊕Es.den)
 |0,_,_,_,_,_,_,_,_,_,_,_=>a7
 |n+1,d,e,f,g,h,i,j,l,o,p,s=>uK q (ou q n) (fun u v x y z A B D E G I=>a6 (.inl ((),((u,v,()),(x,y,()),(z,A,()),(),()),((),(),B,(D,E,G,I,()),())))) (fun J K M N O S=>a6 (.inr ((),((J,K,()),(M,N,()),(O,S,()),(),()),()))) d e f g h i j l o p s
def aek (q:iE) (n:Nat) (v:BZ.den):=bq (ou q n) v
noncomputable def D6 (q:iE):dE:=fF qx BZ Ei Es (.exit 0) (aek q bM) 6
def vH:SQ:=⟨eS,bB,en⟩
def yY:SQ:=⟨d6,bB,en⟩
def zi:SQ:=⟨d6,bB,[]⟩
def pU (q:iE) {e:Type} (o p:Int->Int->Int->Int->Int->Int->(List gJ)->(List gu)->Int->Int->Int->Option e) (z:Int->Int->Int->Int->Int->Int->Option e) (f g h i j l:Int) (s:List gJ) (u:List gu) (v x y:Int):Option e:=bH (zS u v s x y) fun d=>cond d.2.1 (o f g h i j l d.1.2.2.1 d.1.1 d.1.2.1 d.1.2.2.2.1 d.1.2.2.2.2.1)<|p f g h i j l d.1.2.2.1 d.1.1 d.1.2.1 d.1.2.2.2.1 d.1.2.2.2.2.1
def kY (q:iE):Nat->Int->Int->Int->Int->Int->Int->(List gJ)->(List gu)->Int->Int->Int->Option (yY.den⊕zi.den)
 |0,_,_,_,_,_,_,_,_,_,_,_=>a7
 |n+1,d,e,f,g,h,i,j,l,o,p,s=>pU q (kY q n) (fun u v x y z A B D E G I=>a6 (.inl ((),((u,v,()),(x,y,()),(z,A,()),(),()),((),(),B,(D,E,G,I,()),())))) (fun J K M N O S=>a6 (.inr ((),((J,K,()),(M,N,()),(O,S,()),(),()),()))) d e f g h i j l o p s
def Vu (q:iE) (n:Nat) (v:vH.den):=bq (kY q n) v
noncomputable def yR (q:iE):dE:=fF qx vH yY zi (.exit 0) (Vu q bM) 12
def vI:SQ:=⟨eS,bB,eo⟩
def yZ:SQ:=⟨d6,bB,eo⟩
def zk:SQ:=⟨d6,bB,[]⟩
def pV (q:iE) {e:Type} (o p:Int->Int->Int->Int->Int->Int->(List gJ)->(List gu)->Int->Int->Int->Option e) (z:Int->Int->Int->Int->Int->Int->Option e) (f g h i j l:Int) (s:List gJ) (u:List gu) (v x y:Int):Option e:=bH (zS u v s x y) fun d=>cond d.2.1 (o f g h i j l d.1.2.2.1 d.1.1 d.1.2.1 d.1.2.2.2.1 d.1.2.2.2.2.1)<|p f g h i j l d.1.2.2.1 d.1.1 d.1.2.1 d.1.2.2.2.1 d.1.2.2.2.2.1
def kZ (q:iE):Nat->Int->Int->Int->Int->Int->Int->(List gJ)->(List gu)->Int->Int->Int->Option (yZ.den⊕zk.den)
 |0,_,_,_,_,_,_,_,_,_,_,_=>a7
 |n+1,d,e,f,g,h,i,j,l,o,p,s=>pV q (kZ q n) (fun u v x y z A B D E G I=>a6 (.inl ((),((u,v,()),(x,y,()),(z,A,()),(),()),((),(),B,(D,E,G,I,()),())))) (fun J K M N O S=>a6 (.inr ((),((J,K,()),(M,N,()),(O,S,()),(),()),()))) d e f g h i j l o p s
def Vw (q:iE) (n:Nat) (v:vI.den):=bq (kZ q n) v
noncomputable def yS (q:iE):dE:=fF qx vI yZ zk (.exit 0) (Vw q bM) 18
def vJ:SQ:=⟨eS,bB,er⟩
def zf:SQ:=⟨d6,bB,er⟩
def zl:SQ:=⟨d6,bB,[]⟩
def pW (q:iE) {e:Type} (o p:Int->Int->Int->Int->Int->Int->(List gJ)->(List gu)->Int->Int->Int->Option e) (z:Int->Int->Int->Int->Int->Int->Option e) (f g h i j l:Int) (s:List gJ) (u:List gu) (v x y:Int):Option e:=bH (zS u v s x y) fun d=>cond d.2.1 (o f g h i j l d.1.2.2.1 d.1.1 d.1.2.1 d.1.2.2.2.1 d.1.2.2.2.2.1)<|p f g h i j l d.1.2.2.1 d.1.1 d.1.2.1 d.1.2.2.2.1 d.1.2.2.2.2.1
def lg (q:iE):Nat->Int->Int->Int->Int->Int->Int->(List gJ)->(List gu)->Int->Int->Int->Option (zf.den⊕zl.den)
 |0,_,_,_,_,_,_,_,_,_,_,_=>a7
 |n+1,d,e,f,g,h,i,j,l,o,p,s=>pW q (lg q n) (fun u v x y z A B D E G I=>a6 (.inl ((),((u,v,()),(x,y,()),(z,A,()),(),()),((),(),B,(D,E,G,I,()),())))) (fun J K M N O S=>a6 (.inr ((),((J,K,()),(M,N,()),(O,S,()),(),()),()))) d e f g h i j l o p s
def Vx (q:iE) (n:Nat) (v:vJ.den):=bq (lg q n) v
noncomputable def yT (q:iE):dE:=fF qx vJ zf zl (.exit 0) (Vx q bM) 24
def vK:SQ:=⟨eS,bB,ev⟩
def zg:SQ:=⟨d6,bB,ev⟩
def zn:SQ:=⟨d6,bB,[]⟩
def pX (q:iE) {e:Type} (o p:Int->Int->Int->Int->Int->Int->(List gJ)->(List gu)->Int->Int->Int->Option e) (z:Int->Int->Int->Int->Int->Int->Option e) (f g h i j l:Int) (s:List gJ) (u:List gu) (v x y:Int):Option e:=bH (zS u v s x y) fun d=>cond d.2.1 (o f g h i j l d.1.2.2.1 d.1.1 d.1.2.1 d.1.2.2.2.1 d.1.2.2.2.2.1)<|p f g h i j l d.1.2.2.1 d.1.1 d.1.2.1 d.1.2.2.2.1 d.1.2.2.2.2.1
def lm (q:iE):Nat->Int->Int->Int->Int->Int->Int->(List gJ)->(List gu)->Int->Int->Int->Option (zg.den⊕zn.den)
 |0,_,_,_,_,_,_,_,_,_,_,_=>a7
 |n+1,d,e,f,g,h,i,j,l,o,p,s=>pX q (lm q n) (fun u v x y z A B D E G I=>a6 (.inl ((),((u,v,()),(x,y,()),(z,A,()),(),()),((),(),B,(D,E,G,I,()),())))) (fun J K M N O S=>a6 (.inr ((),((J,K,()),(M,N,()),(O,S,()),(),()),()))) d e f g h i j l o p s
def Vy (q:iE) (n:Nat) (v:vK.den):=bq (lm q n) v
noncomputable def yU (q:iE):dE:=fF qx vK zg zn (.exit 0) (Vy q bM) 30
def vM:SQ:=⟨eS,bB,ey⟩
def zh:SQ:=⟨d6,bB,ey⟩
def zo:SQ:=⟨d6,bB,[]⟩
def pY (q:iE) {e:Type} (o p:Int->Int->Int->Int->Int->Int->(List gJ)->(List gu)->Int->Int->Int->Option e) (z:Int->Int->Int->Int->Int->Int->Option e) (f g h i j l:Int) (s:List gJ) (u:List gu) (v x y:Int):Option e:=bH (zS u v s x y) fun d=>cond d.2.1 (o f g h i j l d.1.2.2.1 d.1.1 d.1.2.1 d.1.2.2.2.1 d.1.2.2.2.2.1)<|p f g h i j l d.1.2.2.1 d.1.1 d.1.2.1 d.1.2.2.2.1 d.1.2.2.2.2.1
def lq (q:iE):Nat->Int->Int->Int->Int->Int->Int->(List gJ)->(List gu)->Int->Int->Int->Option (zh.den⊕zo.den)
 |0,_,_,_,_,_,_,_,_,_,_,_=>a7
 |n+1,d,e,f,g,h,i,j,l,o,p,s=>pY q (lq q n) (fun u v x y z A B D E G I=>a6 (.inl ((),((u,v,()),(x,y,()),(z,A,()),(),()),((),(),B,(D,E,G,I,()),())))) (fun J K M N O S=>a6 (.inr ((),((J,K,()),(M,N,()),(O,S,()),(),()),()))) d e f g h i j l o p s
def Vz (q:iE) (n:Nat) (v:vM.den):=bq (lq q n) v
noncomputable def yV (q:iE):dE:=fF qx vM zh zo (.exit 0) (Vz q bM) 36
def zQ (q:iE) (i:List gu) (j:Int) (l:List gJ) (o p:Int):Option AV:=bH (cond (bP 9 9) (cond ((((bP 9 9)&&true)&&(((mr nK l l)&&(((mr Vb i i)&&((bP j j)&&((bP o o)&&((bP p p)&&true))))&&true))&&true))&&true) (a6 ()) (a7)) (a7)) fun s=>bH (xQ i j l o p 0) fun d=>cond (bP d.2.1 40) (cond (bP 10 10) (cond (bP d.1.2.1 d.1.2.1) (cond (bP d.1.2.2.2.1 d.1.2.2.2.1) (cond (dY (bT d.1.2.2.1 [(10,(d.1.2.1,(0,(d.1.2.2.2.1,()))))]) 32) (cond (bP 10 10) (cond (bP d.1.2.1 d.1.2.1) (cond (bP d.1.2.2.2.1 d.1.2.2.2.1) (cond ((bP 10 10)&&((bP d.1.2.1 d.1.2.1)&&((bP 0 0)&&((bP d.1.2.2.2.1 d.1.2.2.2.1)&&true)))) (bH (q.q252 d.1.1 (di .i64 d.1.2.1 1) (bT d.1.2.2.1 [(10,(d.1.2.1,(0,(d.1.2.2.2.1,()))))]) (bI d.1.2.2.1) (di .i64 d.1.2.2.2.2.1 1)) fun f=>bH (ou q bM (bI d.1.2.2.1) d.1.2.2.2.1 10 10 10 10 f.1.2.2.1 f.1.1 f.1.2.1 f.1.2.2.2.1 f.1.2.2.2.2.1) fun g=>dN g (fun e=>cond (fD e.2.2.2.2.1 e.2.1.1.1) (cond (lZ (dC e.2.1.1.1) e.2.2.2.2.1) (a6 ((e.2.2.2.2.2.1.1,(e.2.2.2.2.2.1.2.1,((gX e.2.2.2.2.1 (dC e.2.1.1.1) ((dJ e.2.2.2.2.1 (0,(0,(0,(0,())))) (dC e.2.1.1.1)).1,((dJ e.2.2.2.2.1 (0,(0,(0,(0,())))) (dC e.2.1.1.1)).2.1,(e.2.2.2.2.2.1.2.1,((dJ e.2.2.2.2.1 (0,(0,(0,(0,())))) (dC e.2.1.1.1)).2.2.2.1,()))))),(e.2.1.1.2.1,((eU .i64 e.2.2.2.2.2.1.2.2.2.1 1),()))))),())) a7) a7) (fun h=>a7)) a7) a7) a7) a7) a7) a7) a7) a7)<|cond (bP d.2.1 105) (cond (bP 11 11) (cond (bP d.1.2.1 d.1.2.1) (cond (bP d.1.2.2.2.1 d.1.2.2.2.1) (cond (dY (bT d.1.2.2.1 [(11,(d.1.2.1,(0,(d.1.2.2.2.1,()))))]) 32) (cond (bP 11 11) (cond (bP d.1.2.1 d.1.2.1) (cond (bP d.1.2.2.2.1 d.1.2.2.2.1) (cond ((bP 11 11)&&((bP d.1.2.1 d.1.2.1)&&((bP 0 0)&&((bP d.1.2.2.2.1 d.1.2.2.2.1)&&true)))) (bH (q.q253 d.1.1 (di .i64 d.1.2.1 1) (bT d.1.2.2.1 [(11,(d.1.2.1,(0,(d.1.2.2.2.1,()))))]) (bI d.1.2.2.1) (di .i64 d.1.2.2.2.2.1 1)) fun f=>bH (kY q bM (bI d.1.2.2.1) d.1.2.2.2.1 11 11 11 11 f.1.2.2.1 f.1.1 f.1.2.1 f.1.2.2.2.1 f.1.2.2.2.2.1) fun g=>dN g (fun e=>cond (fD e.2.2.2.2.1 e.2.1.1.1) (cond (lZ (dC e.2.1.1.1) e.2.2.2.2.1) (a6 ((e.2.2.2.2.2.1.1,(e.2.2.2.2.2.1.2.1,((gX e.2.2.2.2.1 (dC e.2.1.1.1) ((dJ e.2.2.2.2.1 (0,(0,(0,(0,())))) (dC e.2.1.1.1)).1,((dJ e.2.2.2.2.1 (0,(0,(0,(0,())))) (dC e.2.1.1.1)).2.1,(e.2.2.2.2.2.1.2.1,((dJ e.2.2.2.2.1 (0,(0,(0,(0,())))) (dC e.2.1.1.1)).2.2.2.1,()))))),(e.2.1.1.2.1,((eU .i64 e.2.2.2.2.2.1.2.2.2.1 1),()))))),())) a7) a7) (fun h=>a7)) a7) a7) a7) a7) a7) a7) a7) a7)<|cond (bP d.2.1 119) (cond (bP 12 12) (cond (bP d.1.2.1 d.1.2.1) (cond (bP d.1.2.2.2.1 d.1.2.2.2.1) (cond (dY (bT d.1.2.2.1 [(12,(d.1.2.1,(0,(d.1.2.2.2.1,()))))]) 32) (cond (bP 12 12) (cond (bP d.1.2.1 d.1.2.1) (cond (bP d.1.2.2.2.1 d.1.2.2.2.1) (cond ((bP 12 12)&&((bP d.1.2.1 d.1.2.1)&&((bP 0 0)&&((bP d.1.2.2.2.1 d.1.2.2.2.1)&&true)))) (bH (q.q254 d.1.1 (di .i64 d.1.2.1 1) (bT d.1.2.2.1 [(12,(d.1.2.1,(0,(d.1.2.2.2.1,()))))]) (bI d.1.2.2.1) (di .i64 d.1.2.2.2.2.1 1)) fun f=>bH (kZ q bM (bI d.1.2.2.1) d.1.2.2.2.1 12 12 12 12 f.1.2.2.1 f.1.1 f.1.2.1 f.1.2.2.2.1 f.1.2.2.2.2.1) fun g=>dN g (fun e=>cond (fD e.2.2.2.2.1 e.2.1.1.1) (cond (lZ (dC e.2.1.1.1) e.2.2.2.2.1) (a6 ((e.2.2.2.2.2.1.1,(e.2.2.2.2.2.1.2.1,((gX e.2.2.2.2.1 (dC e.2.1.1.1) ((dJ e.2.2.2.2.1 (0,(0,(0,(0,())))) (dC e.2.1.1.1)).1,((dJ e.2.2.2.2.1 (0,(0,(0,(0,())))) (dC e.2.1.1.1)).2.1,(e.2.2.2.2.2.1.2.1,((dJ e.2.2.2.2.1 (0,(0,(0,(0,())))) (dC e.2.1.1.1)).2.2.2.1,()))))),(e.2.1.1.2.1,((eU .i64 e.2.2.2.2.2.1.2.2.2.1 1),()))))),())) a7) a7) (fun h=>a7)) a7) a7) a7) a7) a7) a7) a7) a7)<|cond (bP d.2.1 114) (cond (bP 13 13) (cond (bP d.1.2.1 d.1.2.1) (cond (bP d.1.2.2.2.1 d.1.2.2.2.1) (cond (dY (bT d.1.2.2.1 [(13,(d.1.2.1,(0,(d.1.2.2.2.1,()))))]) 32) (cond (bP 13 13) (cond (bP d.1.2.1 d.1.2.1) (cond (bP d.1.2.2.2.1 d.1.2.2.2.1) (cond ((bP 13 13)&&((bP d.1.2.1 d.1.2.1)&&((bP 0 0)&&((bP d.1.2.2.2.1 d.1.2.2.2.1)&&true)))) (bH (q.q255 d.1.1 (di .i64 d.1.2.1 1) (bT d.1.2.2.1 [(13,(d.1.2.1,(0,(d.1.2.2.2.1,()))))]) (bI d.1.2.2.1) (di .i64 d.1.2.2.2.2.1 1)) fun f=>bH (lg q bM (bI d.1.2.2.1) d.1.2.2.2.1 13 13 13 13 f.1.2.2.1 f.1.1 f.1.2.1 f.1.2.2.2.1 f.1.2.2.2.2.1) fun g=>dN g (fun e=>cond (fD e.2.2.2.2.1 e.2.1.1.1) (cond (lZ (dC e.2.1.1.1) e.2.2.2.2.1) (a6 ((e.2.2.2.2.2.1.1,(e.2.2.2.2.2.1.2.1,((gX e.2.2.2.2.1 (dC e.2.1.1.1) ((dJ e.2.2.2.2.1 (0,(0,(0,(0,())))) (dC e.2.1.1.1)).1,((dJ e.2.2.2.2.1 (0,(0,(0,(0,())))) (dC e.2.1.1.1)).2.1,(e.2.2.2.2.2.1.2.1,((dJ e.2.2.2.2.1 (0,(0,(0,(0,())))) (dC e.2.1.1.1)).2.2.2.1,()))))),(e.2.1.1.2.1,((eU .i64 e.2.2.2.2.2.1.2.2.2.1 1),()))))),())) a7) a7) (fun h=>a7)) a7) a7) a7) a7) a7) a7) a7) a7)<|cond (bP d.2.1 99) (cond (bP 14 14) (cond (bP d.1.2.1 d.1.2.1) (cond (bP d.1.2.2.2.1 d.1.2.2.2.1) (cond (dY (bT d.1.2.2.1 [(14,(d.1.2.1,(0,(d.1.2.2.2.1,()))))]) 32) (cond (bP 14 14) (cond (bP d.1.2.1 d.1.2.1) (cond (bP d.1.2.2.2.1 d.1.2.2.2.1) (cond ((bP 14 14)&&((bP d.1.2.1 d.1.2.1)&&((bP 0 0)&&((bP d.1.2.2.2.1 d.1.2.2.2.1)&&true)))) (bH (q.q256 d.1.1 (di .i64 d.1.2.1 1) (bT d.1.2.2.1 [(14,(d.1.2.1,(0,(d.1.2.2.2.1,()))))]) (bI d.1.2.2.1) (di .i64 d.1.2.2.2.2.1 1)) fun f=>bH (lm q bM (bI d.1.2.2.1) d.1.2.2.2.1 14 14 14 14 f.1.2.2.1 f.1.1 f.1.2.1 f.1.2.2.2.1 f.1.2.2.2.2.1) fun g=>dN g (fun e=>cond (fD e.2.2.2.2.1 e.2.1.1.1) (cond (lZ (dC e.2.1.1.1) e.2.2.2.2.1) (a6 ((e.2.2.2.2.2.1.1,(e.2.2.2.2.2.1.2.1,((gX e.2.2.2.2.1 (dC e.2.1.1.1) ((dJ e.2.2.2.2.1 (0,(0,(0,(0,())))) (dC e.2.1.1.1)).1,((dJ e.2.2.2.2.1 (0,(0,(0,(0,())))) (dC e.2.1.1.1)).2.1,(e.2.2.2.2.2.1.2.1,((dJ e.2.2.2.2.1 (0,(0,(0,(0,())))) (dC e.2.1.1.1)).2.2.2.1,()))))),(e.2.1.1.2.1,((eU .i64 e.2.2.2.2.2.1.2.2.2.1 1),()))))),())) a7) a7) (fun h=>a7)) a7) a7) a7) a7) a7) a7) a7) a7)<|cond (bP 9 9) (cond (bP d.1.2.1 d.1.2.1) (cond (bP d.1.2.2.2.1 d.1.2.2.2.1) (cond (dY (bT d.1.2.2.1 [(9,(d.1.2.1,(0,(d.1.2.2.2.1,()))))]) 32) (cond (bP 9 9) (cond (bP d.1.2.1 d.1.2.1) (cond (bP d.1.2.2.2.1 d.1.2.2.2.1) (cond ((bP 9 9)&&((bP d.1.2.1 d.1.2.1)&&((bP 0 0)&&((bP d.1.2.2.2.1 d.1.2.2.2.1)&&true)))) (bH (q.q251 d.1.1 (di .i64 d.1.2.1 1) (bT d.1.2.2.1 [(9,(d.1.2.1,(0,(d.1.2.2.2.1,()))))]) (bI d.1.2.2.1) (di .i64 d.1.2.2.2.2.1 1)) fun f=>bH (lq q bM (bI d.1.2.2.1) d.1.2.2.2.1 9 9 9 9 f.1.2.2.1 f.1.1 f.1.2.1 f.1.2.2.2.1 f.1.2.2.2.2.1) fun g=>dN g (fun e=>cond (fD e.2.2.2.2.1 e.2.1.1.1) (cond (lZ (dC e.2.1.1.1) e.2.2.2.2.1) (a6 ((e.2.2.2.2.2.1.1,(e.2.2.2.2.2.1.2.1,((gX e.2.2.2.2.1 (dC e.2.1.1.1) ((dJ e.2.2.2.2.1 (0,(0,(0,(0,())))) (dC e.2.1.1.1)).1,((dJ e.2.2.2.2.1 (0,(0,(0,(0,())))) (dC e.2.1.1.1)).2.1,(e.2.2.2.2.2.1.2.1,((dJ e.2.2.2.2.1 (0,(0,(0,(0,())))) (dC e.2.1.1.1)).2.2.2.1,()))))),(e.2.1.1.2.1,((eU .i64 e.2.2.2.2.2.1.2.2.2.1 1),()))))),())) a7) a7) (fun h=>a7)) a7) a7) a7) a7) a7) a7) a7) a7
noncomputable def Bh (q:iE):Env:=gB prog tt [] [(257,2,qx),(219,600013,atY),(221,600001,OA),(41,600003,jO),(257,600001,BF)] [(257,2,nI (D6 q) (nI (yR q) (nI (yS q) (nI (yT q) (nI (yU q) ((yV q)))))))] [] [(103,aid),(251,amf q),(252,amg q),(253,amh q),(254,ami q),(255,amj q),(256,amk q),(258,aij)]
def Pm (q:iE) {d:Type} (a:BZ.den->Option d) (b:Ei.den->Option d) (c:Es.den->Option d) (v:BZ.den):Option d:=bq (uK q (bo a) (bo b) (bp c)) v
theorem aeI (q:iE):dQ (Bh q) 257 og (D6 q):=lu (Pm q) (h2:=by intros;simp only[Pm,bo,bp,bq,uK,cO,cZ,bG,bW,dh])
def Hf (q:iE) {d:Type} (a:vH.den->Option d) (b:yY.den->Option d) (c:zi.den->Option d) (v:vH.den):Option d:=bq (pU q (bo a) (bo b) (bp c)) v
theorem VC (q:iE):dQ (Bh q) 257 og (yR q):=lu (Hf q) (h2:=by intros;simp only[Hf,bo,bp,bq,pU,cO,cZ,bG,bW,dh])
def Hg (q:iE) {d:Type} (a:vI.den->Option d) (b:yZ.den->Option d) (c:zk.den->Option d) (v:vI.den):Option d:=bq (pV q (bo a) (bo b) (bp c)) v
theorem VE (q:iE):dQ (Bh q) 257 og (yS q):=lu (Hg q) (h2:=by intros;simp only[Hg,bo,bp,bq,pV,cO,cZ,bG,bW,dh])
def Hl (q:iE) {d:Type} (a:vJ.den->Option d) (b:zf.den->Option d) (c:zl.den->Option d) (v:vJ.den):Option d:=bq (pW q (bo a) (bo b) (bp c)) v
theorem VF (q:iE):dQ (Bh q) 257 og (yT q):=lu (Hl q) (h2:=by intros;simp only[Hl,bo,bp,bq,pW,cO,cZ,bG,bW,dh])
def Hm (q:iE) {d:Type} (a:vK.den->Option d) (b:zg.den->Option d) (c:zn.den->Option d) (v:vK.den):Option d:=bq (pX q (bo a) (bo b) (bp c)) v
theorem VG (q:iE):dQ (Bh q) 257 og (yU q):=lu (Hm q) (h2:=by intros;simp only[Hm,bo,bp,bq,pX,cO,cZ,bG,bW,dh])
def Ho (q:iE) {d:Type} (a:vM.den->Option d) (b:zh.den->Option d) (c:zo.den->Option d) (v:vM.den):Option d:=bq (pY q (bo a) (bo b) (bp c)) v
theorem VH (q:iE):dQ (Bh q) 257 og (yV q):=lu (Ho q) (h2:=by intros;simp only[Ho,bo,bp,bq,pY,cO,cZ,bG,bW,dh])
theorem ag4 (q:iE):dM (Bh q) 257 Ro:=nV [og] (aD (fun L h=>by rw[show((Bh q)).lp 257 (dH og)=a6 (nI (D6 q) (nI (yR q) (nI (yS q) (nI (yT q) (nI (yU q) ((yV q))))))) by kernel_rfl]at h;cases h;exact rX (aeI q) (rX (VC q) (rX (VE q) (rX (VF q) (rX (VG q) ((VH q))))))) aN)
theorem anh (q:iE) (H:H71 q):eu (Bh q):=eB aN [257] (aD ⟨f257,Ro,by kernel_rfl,by kernel_rfl,ag4 q⟩ aN) (hx:=(aD sJ (aD H.2.2.2.2.2.2.2.1 (aD H.2.2.2.2.2.2.2.2.1 (aD H.2.2.2.2.2.2.2.2.2.1 (aD H.2.2.2.2.2.2.2.2.2.2.1 (aD H.2.2.2.2.2.2.2.2.2.2.2.1 (aD H.2.2.2.2.2.2.2.2.2.2.2.2.1 (aD XJ aN)))))))))
def asC (q:iE) (g:List gu) (h:Int) (i:List gJ) (j l:Int):Option AV:=bH (pJ g h i j l) fun f=>bH (YL f.1.1 f.1.2.1 f.1.2.2.1 f.1.2.2.2.1 f.1.2.2.2.2.1) fun d=>cond d.2.1 (cond (bP 2 2) (cond (bP d.1.2.1 d.1.2.1) (cond (bP d.1.2.2.2.1 d.1.2.2.2.1) (cond (dY (bT d.1.2.2.1 [(2,(d.1.2.1,(0,(d.1.2.2.2.1,()))))]) 32) (cond (bP 2 2) (cond (bP d.1.2.1 d.1.2.1) (cond (bP d.1.2.2.2.1 d.1.2.2.2.1) (cond ((bP 2 2)&&((bP d.1.2.1 d.1.2.1)&&((bP 0 0)&&((bP d.1.2.2.2.1 d.1.2.2.2.1)&&true)))) (bH (q.q71 d.1.1 d.1.2.1 (bT d.1.2.2.1 [(2,(d.1.2.1,(0,(d.1.2.2.2.1,()))))]) (bI d.1.2.2.1) d.1.2.2.2.2.1) fun e=>cond (fD e.1.2.2.1 (bI d.1.2.2.1)) (cond (lZ (dC (bI d.1.2.2.1)) e.1.2.2.1) (a6 ((e.1.1,(e.1.2.1,((gX e.1.2.2.1 (dC (bI d.1.2.2.1)) ((dJ e.1.2.2.1 (0,(0,(0,(0,())))) (dC (bI d.1.2.2.1))).1,((dJ e.1.2.2.1 (0,(0,(0,(0,())))) (dC (bI d.1.2.2.1))).2.1,(e.1.2.1,((dJ e.1.2.2.1 (0,(0,(0,(0,())))) (dC (bI d.1.2.2.1))).2.2.2.1,()))))),(d.1.2.2.2.1,(e.1.2.2.2.2.1,()))))),())) a7) a7) a7) a7) a7) a7) a7) a7) a7) a7)<|bH (xR d.1.1 d.1.2.1 d.1.2.2.1 d.1.2.2.2.1 d.1.2.2.2.2.1) fun e=>a6 ((e.1.1,(e.1.2.1,(e.1.2.2.1,(e.1.2.2.2.1,(e.1.2.2.2.2.1,()))))),())
noncomputable def aDA (q:iE):Env:=gB prog tt [] [(268,600002,vz),(41,600003,jO)] [] [] [(70,XM),(71,ail q),(106,CP),(175,NQ)]
theorem anA (q:iE) (H:H71 q):eu (aDA q):=eB aN [] aN (hx:=(aD EL (aD H.1 (aD qM (aD sK aN)))))
def asx (q:iE) (f:List gu) (g:Int) (h:List gJ) (i j:Int):Option AV:=bH (q.q268 f g h i j) fun d=>bH (rG d.1.1 d.1.2.1 d.1.2.2.1 d.1.2.2.2.1 d.1.2.2.2.2.1 [125]) fun e=>a6 ((e.1.1,(e.1.2.1,(e.1.2.2.1,(e.1.2.2.2.1,(e.1.2.2.2.2.1,()))))),())
noncomputable def aDx (q:iE):Env:=gB prog tt [] [] [] [] [(260,EF),(268,Gt q)]
theorem anr (q:iE) (H:H71 q):eu (aDx q):=eB aN [] aN (hx:=(aD sN (aD H.2.2.2.2.2.2.1 aN)))
def asy (q:iE) (f:List gu) (g:Int) (h:List gJ) (i j:Int):Option AV:=bH (q.q268 f g h i j) fun d=>bH (rG d.1.1 d.1.2.1 d.1.2.2.1 d.1.2.2.2.1 d.1.2.2.2.2.1 [41]) fun e=>a6 ((e.1.1,(e.1.2.1,(e.1.2.2.1,(e.1.2.2.2.1,(e.1.2.2.2.2.1,()))))),())
noncomputable def aDy (q:iE):Env:=gB prog tt [] [] [] [] [(260,EF),(268,Gt q)]
theorem ant (q:iE) (H:H71 q):eu (aDy q):=eB aN [] aN (hx:=(aD sN (aD H.2.2.2.2.2.2.1 aN)))
noncomputable def aDi:Code:=(f253.body).getD .skip
noncomputable def aqL:Code:=cA (cA (cA (cB (cB (cB (aDi))))))
def atP:eQ:=⟨[0,100003],[],[0],[],[],[]⟩
def ZZ:SQ:=⟨us bN 21,c9,dq⟩
def aaI:SQ:=⟨us bN 21,c9,dq⟩
def abn:SQ:=⟨us [] 22,c9,[]⟩
def QR (q:iE) {h:Type} (i j:(List gu)->Int->Int->Int->(List gJ)->Option h) (v:Option h) (l:List gu) (o p s:Int) (u:List gJ):Option h:=bH (rD l o u p s [101]) fun d=>cond d.2.1 (bH (q.q268 d.1.1 d.1.2.1 d.1.2.2.1 d.1.2.2.2.1 d.1.2.2.2.2.1) fun e=>bH (rG e.1.1 e.1.2.1 e.1.2.2.1 e.1.2.2.2.1 e.1.2.2.2.2.1 [116]) fun f=>bH (q.q268 f.1.1 f.1.2.1 f.1.2.2.1 f.1.2.2.2.1 f.1.2.2.2.2.1) fun g=>i g.1.1 g.1.2.1 g.1.2.2.2.1 g.1.2.2.2.2.1 g.1.2.2.1)<|j d.1.1 d.1.2.1 d.1.2.2.2.1 d.1.2.2.2.2.1 d.1.2.2.1
def J8 (q:iE):Nat->(List gu)->Int->Int->Int->(List gJ)->Option (aaI.den⊕abn.den)
 |0,_,_,_,_,_=>a7
 |n+1,d,e,f,g,h=>QR q (J8 q n) (fun i j l o p=>a6 (.inl ((),((),()),((i,j,l,o,()),p,())))) (a6 (.inr ((),((),()),()))) d e f g h
def azK (q:iE) (n:Nat) (v:ZZ.den):=bm (J8 q n) v
noncomputable def akp (q:iE):dE:=fF atP ZZ aaI abn (.exit 0) (azK q bM) 6
def asz (q:iE) (l:List gu) (o:Int) (p:List gJ) (s u:Int):Option AV:=bH (q.q268 l o p s u) fun f=>bH (rG f.1.1 f.1.2.1 f.1.2.2.1 f.1.2.2.2.1 f.1.2.2.2.2.1 [116]) fun g=>bH (q.q268 g.1.1 g.1.2.1 g.1.2.2.1 g.1.2.2.2.1 g.1.2.2.2.2.1) fun h=>bH (J8 q bM h.1.1 h.1.2.1 h.1.2.2.2.1 h.1.2.2.2.2.1 h.1.2.2.1) fun v=>dN v (fun i=>bH (rD i.2.2.1.1 i.2.2.1.2.1 i.2.2.2.1 i.2.2.1.2.2.1 i.2.2.1.2.2.2.1 [108]) fun d=>cond d.2.1 (bH (q.q268 d.1.1 d.1.2.1 d.1.2.2.1 d.1.2.2.2.1 d.1.2.2.2.2.1) fun e=>bH (rG e.1.1 e.1.2.1 e.1.2.2.1 e.1.2.2.2.1 e.1.2.2.2.2.1 [102]) fun j=>a6 ((j.1.1,(j.1.2.1,(j.1.2.2.1,(j.1.2.2.2.1,(j.1.2.2.2.2.1,()))))),()))<|bH (rG d.1.1 d.1.2.1 d.1.2.2.1 d.1.2.2.2.1 d.1.2.2.2.2.1 [102]) fun e=>a6 ((e.1.1,(e.1.2.1,(e.1.2.2.1,(e.1.2.2.2.1,(e.1.2.2.2.2.1,()))))),())) (fun x=>a7)
noncomputable def agn (q:iE):Env:=gB prog tt [] [(253,3,atP)] [(253,3,akp q)] [] [(69,EK),(260,EF),(268,Gt q)]
def alO (q:iE) {d:Type} (a:ZZ.den->Option d) (b:aaI.den->Option d) (c:abn.den->Option d) (v:ZZ.den):Option d:=bm (QR q (bl a) (bl b) (c ((),((),()),()))) v
theorem aAz (q:iE):dQ (agn q) 253 aqL (akp q):=lu (alO q) (h2:=by intros;simp only[alO,bl,bm,QR,cO,cZ,bG,bW,dh])
theorem aEH (q:iE):dM (agn q) 253 aDi:=nV [aqL] (aD (fM (aAz q)) aN)
theorem anu (q:iE) (H:H71 q):eu (agn q):=eB aN [253] (aD ⟨f253,aDi,by kernel_rfl,by kernel_rfl,aEH q⟩ aN) (hx:=(aD ni (aD sN (aD H.2.2.2.2.2.2.1 aN))))
def aBz (q:iE) (f:List gu) (g:Int) (h:List gJ) (i j:Int):Option AV:=bH (q.q268 f g h i j) fun d=>bH (q.q269 d.1.1 d.1.2.1 d.1.2.2.1 d.1.2.2.2.1 d.1.2.2.2.2.1) fun e=>a6 ((e.1.1,(e.1.2.1,(e.1.2.2.1,(e.1.2.2.2.1,(e.1.2.2.2.2.1,()))))),())
noncomputable def aDz (q:iE):Env:=gB prog tt [] [] [] [] [(268,Gt q),(269,aco q)]
theorem anv (q:iE) (H:H71 q):eu (aDz q):=eB aN [] aN (hx:=(aD H.2.2.2.2.2.2.1 (aD H.2.2.2.2.2.2.2.2.2.2.2.2.2.2 aN)))
noncomputable def aDj:Code:=(f255.body).getD .skip
noncomputable def aqM:Code:=cA (cA (cA (cA (cB (cB (cB (cB (cA (cB (aDj))))))))))
def atQ:eQ:=⟨[0,100007],[],[0],[],[],[]⟩
def Z4:SQ:=⟨us bN 47,c9,dq⟩
def aaJ:SQ:=⟨us bN 47,c9,dq⟩
def abo:SQ:=⟨us [] 48,c9,[]⟩
def QS (q:iE) {f:Type} (g h:(List gu)->Int->Int->Int->(List gJ)->Option f) (s:Option f) (i:List gu) (j l o:Int) (p:List gJ):Option f:=bH (Oo i j p l o) fun d=>cond d.2.1 (bH (SS d.1.1 d.1.2.1 d.1.2.2.1 d.1.2.2.2.1 d.1.2.2.2.2.1 7) fun e=>g e.1.1 e.1.2.1 e.1.2.2.2.1 e.1.2.2.2.2.1 e.1.2.2.1)<|h d.1.1 d.1.2.1 d.1.2.2.2.1 d.1.2.2.2.2.1 d.1.2.2.1
def FN (q:iE):Nat->(List gu)->Int->Int->Int->(List gJ)->Option (aaJ.den⊕abo.den)
 |0,_,_,_,_,_=>a7
 |n+1,d,e,f,g,h=>QS q (FN q n) (fun i j l o p=>a6 (.inl ((),((),()),((i,j,l,o,()),p,())))) (a6 (.inr ((),((),()),()))) d e f g h
def azL (q:iE) (n:Nat) (v:Z4.den):=bm (FN q n) v
noncomputable def akq (q:iE):dE:=fF atQ Z4 aaJ abo (.exit 0) (azL q bM) 6
def JE (q:iE) (d:(taE×pq)):Option AV:=bH (q.q269 d.1.1 d.1.2.1 d.1.2.2.1 d.1.2.2.2.1 d.1.2.2.2.2.1) fun e=>a6 ((e.1.1,(e.1.2.1,(e.1.2.2.1,(e.1.2.2.2.1,(e.1.2.2.2.2.1,()))))),())
def PN (i:AV) (q:iE):Option AV:=bH (rD i.1.1 i.1.2.1 i.1.2.2.1 i.1.2.2.2.1 i.1.2.2.2.2.1 [59]) fun d=>cond d.2.1 (bH (pJ d.1.1 d.1.2.1 d.1.2.2.1 d.1.2.2.2.1 d.1.2.2.2.2.1) fun f=>JE q f)<|bH (pJ d.1.1 d.1.2.1 d.1.2.2.1 d.1.2.2.2.1 d.1.2.2.2.2.1) fun f=>bH (rD f.1.1 f.1.2.1 f.1.2.2.1 f.1.2.2.2.1 f.1.2.2.2.2.1 [107]) fun g=>cond g.2.1 (bH (FN q bM g.1.1 g.1.2.1 g.1.2.2.2.1 g.1.2.2.2.2.1 g.1.2.2.1) fun p=>dN p (fun j=>bH (rD j.2.2.1.1 j.2.2.1.2.1 j.2.2.2.1 j.2.2.1.2.2.1 j.2.2.1.2.2.2.1 [59]) fun h=>bH (pJ h.1.1 h.1.2.1 h.1.2.2.1 h.1.2.2.2.1 h.1.2.2.2.2.1) fun e=>cond (!e.2.1) (cond (!h.2.1) (bH (xR e.1.1 e.1.2.1 e.1.2.2.1 e.1.2.2.2.1 e.1.2.2.2.2.1) fun l=>bH (q.q269 l.1.1 l.1.2.1 l.1.2.2.1 l.1.2.2.2.1 l.1.2.2.2.2.1) fun o=>a6 ((o.1.1,(o.1.2.1,(o.1.2.2.1,(o.1.2.2.2.1,(o.1.2.2.2.2.1,()))))),()))<|JE q e)<|JE q e) (fun b7=>a7))<|JE q g
def asA (q:iE) (g:List gu) (h:Int) (i:List gJ) (j l:Int):Option AV:=bH (Oo g h i j l) fun d=>cond d.2.1 (cond (fD d.1.1 d.1.2.1) (bH (agA (dw d.1.1 (0,([],(0,(0,())))) d.1.2.1).2.1) fun e=>cond e.1 (bH (SS d.1.1 d.1.2.1 d.1.2.2.1 d.1.2.2.2.1 d.1.2.2.2.2.1 7) fun f=>PN f q)<|bH (xR d.1.1 d.1.2.1 d.1.2.2.1 d.1.2.2.2.1 d.1.2.2.2.2.1) fun f=>PN f q) a7)<|bH (xR d.1.1 d.1.2.1 d.1.2.2.1 d.1.2.2.2.1 d.1.2.2.2.2.1) fun e=>PN e q
noncomputable def agp (q:iE):Env:=gB prog tt [(60,axp)] [(255,7,atQ)] [(255,7,akq q)] [] [(69,EK),(72,amq),(106,CP),(175,NQ),(261,acn),(269,aco q)]
def alP (q:iE) {d:Type} (a:Z4.den->Option d) (b:aaJ.den->Option d) (c:abo.den->Option d) (v:Z4.den):Option d:=bm (QS q (bl a) (bl b) (c ((),((),()),()))) v
theorem aAA (q:iE):dQ (agp q) 255 aqM (akq q):=lu (alP q) (h2:=by intros;simp only[alP,bl,bm,QS,cO,cZ,bG,bW,dh])
theorem aEI (q:iE):dM (agp q) 255 aDj:=nV [aqM] (aD (fM (aAA q)) aN)
theorem anw (q:iE) (H:H71 q):eu (agp q):=eB (aD UY aN) [255] (aD ⟨f255,aDj,by kernel_rfl,by kernel_rfl,aEI q⟩ aN) (hx:=(aD ni (aD Lr (aD qM (aD sK (aD Gs (aD H.2.2.2.2.2.2.2.2.2.2.2.2.2.2 aN)))))))
noncomputable def aDk:Code:=(f256.body).getD .skip
noncomputable def aqN:Code:=cA (cA (cA (cB (cB (cB (cB (cB (cA (aDk)))))))))
def atS:eQ:=⟨[0,100004],[],[0],[],[],[]⟩
def Z5:SQ:=⟨us bN 31,c9,dq⟩
def aaK:SQ:=⟨us bN 31,c9,dq⟩
def abp:SQ:=⟨us [] 32,c9,[]⟩
def QT (q:iE) {l:Type} (o j:(List gu)->Int->Int->Int->(List gJ)->Option l) (y:Option l) (p:List gu) (s u v:Int) (x:List gJ):Option l:=bH (Wl p s x u v [40]) fun e=>cond e.2.1 (cond (bP 15 15) (cond (bP e.1.2.1 e.1.2.1) (cond (bP e.1.2.2.2.1 e.1.2.2.2.1) (cond (dY (bT e.1.2.2.1 [(15,(e.1.2.1,(0,(e.1.2.2.2.1,()))))]) 32) (cond (bP 15 15) (cond (bP e.1.2.1 e.1.2.1) (cond (bP e.1.2.2.2.1 e.1.2.2.2.1) (cond ((bP 15 15)&&((bP e.1.2.1 e.1.2.1)&&((bP 0 0)&&((bP e.1.2.2.2.1 e.1.2.2.2.1)&&true)))) (bH (q.q270 e.1.1 e.1.2.1 (bT e.1.2.2.1 [(15,(e.1.2.1,(0,(e.1.2.2.2.1,()))))]) (bI e.1.2.2.1) e.1.2.2.2.2.1) fun f=>cond (fD f.1.2.2.1 (bI e.1.2.2.1)) (cond (lZ (dC (bI e.1.2.2.1)) f.1.2.2.1) (bH (rD f.1.1 f.1.2.1 (gX f.1.2.2.1 (dC (bI e.1.2.2.1)) ((dJ f.1.2.2.1 (0,(0,(0,(0,())))) (dC (bI e.1.2.2.1))).1,((dJ f.1.2.2.1 (0,(0,(0,(0,())))) (dC (bI e.1.2.2.1))).2.1,(f.1.2.1,((dJ f.1.2.2.1 (0,(0,(0,(0,())))) (dC (bI e.1.2.2.1))).2.2.2.1,()))))) e.1.2.2.2.1 f.1.2.2.2.2.1 [121]) fun d=>cond (!d.2.1) (j d.1.1 d.1.2.1 d.1.2.2.2.1 d.1.2.2.2.2.1 d.1.2.2.1)<|bH (pJ d.1.1 d.1.2.1 d.1.2.2.1 d.1.2.2.2.1 d.1.2.2.2.2.1) fun g=>o g.1.1 g.1.2.1 g.1.2.2.2.1 g.1.2.2.2.2.1 g.1.2.2.1) a7) a7) a7) a7) a7) a7) a7) a7) a7) a7)<|bH (Oo e.1.1 e.1.2.1 e.1.2.2.1 e.1.2.2.2.1 e.1.2.2.2.2.1) fun f=>cond f.2.1 (bH (xQ f.1.1 f.1.2.1 f.1.2.2.1 f.1.2.2.2.1 f.1.2.2.2.2.1 0) fun d=>cond (!(bP d.2.1 122)) (cond (bP 15 15) (cond (bP d.1.2.1 d.1.2.1) (cond (bP d.1.2.2.2.1 d.1.2.2.2.1) (cond (dY (bT d.1.2.2.1 [(15,(d.1.2.1,(0,(d.1.2.2.2.1,()))))]) 32) (cond (bP 15 15) (cond (bP d.1.2.1 d.1.2.1) (cond (bP d.1.2.2.2.1 d.1.2.2.2.1) (cond ((bP 15 15)&&((bP d.1.2.1 d.1.2.1)&&((bP 0 0)&&((bP d.1.2.2.2.1 d.1.2.2.2.1)&&true)))) (bH (q.q270 d.1.1 d.1.2.1 (bT d.1.2.2.1 [(15,(d.1.2.1,(0,(d.1.2.2.2.1,()))))]) (bI d.1.2.2.1) d.1.2.2.2.2.1) fun g=>cond (fD g.1.2.2.1 (bI d.1.2.2.1)) (cond (lZ (dC (bI d.1.2.2.1)) g.1.2.2.1) (bH (rD g.1.1 g.1.2.1 (gX g.1.2.2.1 (dC (bI d.1.2.2.1)) ((dJ g.1.2.2.1 (0,(0,(0,(0,())))) (dC (bI d.1.2.2.1))).1,((dJ g.1.2.2.1 (0,(0,(0,(0,())))) (dC (bI d.1.2.2.1))).2.1,(g.1.2.1,((dJ g.1.2.2.1 (0,(0,(0,(0,())))) (dC (bI d.1.2.2.1))).2.2.2.1,()))))) d.1.2.2.2.1 g.1.2.2.2.2.1 [121]) fun h=>cond (!h.2.1) (j h.1.1 h.1.2.1 h.1.2.2.2.1 h.1.2.2.2.2.1 h.1.2.2.1)<|bH (pJ h.1.1 h.1.2.1 h.1.2.2.1 h.1.2.2.2.1 h.1.2.2.2.2.1) fun i=>o i.1.1 i.1.2.1 i.1.2.2.2.1 i.1.2.2.2.2.1 i.1.2.2.1) a7) a7) a7) a7) a7) a7) a7) a7) a7) a7)<|j d.1.1 d.1.2.1 d.1.2.2.2.1 d.1.2.2.2.2.1 d.1.2.2.1)<|j f.1.1 f.1.2.1 f.1.2.2.2.1 f.1.2.2.2.2.1 f.1.2.2.1
def FO (q:iE):Nat->(List gu)->Int->Int->Int->(List gJ)->Option (aaK.den⊕abp.den)
 |0,_,_,_,_,_=>a7
 |n+1,d,e,f,g,h=>QT q (FO q n) (fun i j l o p=>a6 (.inl ((),((),()),((i,j,l,o,()),p,())))) (a6 (.inr ((),((),()),()))) d e f g h
def azM (q:iE) (n:Nat) (v:Z5.den):=bm (FO q n) v
noncomputable def akr (q:iE):dE:=fF atS Z5 aaK abp (.exit 0) (azM q bM) 6
def asB (q:iE) (j:List gu) (l:Int) (o:List gJ) (p s:Int):Option AV:=bH (Om j l o p s) fun d=>bH (pJ d.1.1 d.1.2.1 d.1.2.2.1 d.1.2.2.2.1 d.1.2.2.2.2.1) fun e=>bH (rG e.1.1 e.1.2.1 e.1.2.2.1 e.1.2.2.2.1 e.1.2.2.2.2.1 [107]) fun f=>bH (pJ f.1.1 f.1.2.1 f.1.2.2.1 f.1.2.2.2.1 f.1.2.2.2.2.1) fun g=>bH (FO q bM g.1.1 g.1.2.1 g.1.2.2.2.1 g.1.2.2.2.2.1 g.1.2.2.1) fun u=>dN u (fun h=>bH (rG h.2.2.1.1 h.2.2.1.2.1 h.2.2.2.1 h.2.2.1.2.2.1 h.2.2.1.2.2.2.1 [122]) fun i=>a6 ((i.1.1,(i.1.2.1,(i.1.2.2.1,(i.1.2.2.2.1,(i.1.2.2.2.2.1,()))))),())) (fun v=>a7)
noncomputable def agq (q:iE):Env:=gB prog tt [] [(256,4,atS),(256,600005,vz),(41,600003,jO)] [(256,4,akr q)] [] [(69,EK),(102,awi),(103,aid),(106,CP),(259,acm),(260,EF),(261,acn),(270,aml q)]
def alQ (q:iE) {d:Type} (a:Z5.den->Option d) (b:aaK.den->Option d) (c:abp.den->Option d) (v:Z5.den):Option d:=bm (QT q (bl a) (bl b) (c ((),((),()),()))) v
theorem aAB (q:iE):dQ (agq q) 256 aqN (akr q):=lu (alQ q) (h2:=by intros;simp only[alQ,bl,bm,QT,cO,cZ,bG,bW,dh])
theorem aEJ (q:iE):dM (agq q) 256 aDk:=nV [aqN] (aD (fM (aAB q)) aN)
theorem anx (q:iE) (H:H71 q):eu (agq q):=eB aN [256] (aD ⟨f256,aDk,by kernel_rfl,by kernel_rfl,aEJ q⟩ aN) (hx:=(aD ni (aD NH (aD sJ (aD qM (aD Gq (aD sN (aD Gs (aD H.2.2.2.2.2.2.2.2.2.2.2.2.2.1 aN)))))))))
noncomputable def aDl:Code:=(f270.body).getD .skip
noncomputable def aqP:Code:=cA (cA (cA (cB (cB (aDl)))))
def atT:eQ:=⟨[0,100002],[],[0],[],[],[]⟩
def Z8:SQ:=⟨us bN 19,c9,dq⟩
def aaM:SQ:=⟨us bN 19,c9,dq⟩
def abr:SQ:=⟨us [] 20,c9,[]⟩
def QV (q:iE) {f:Type} (g h:(List gu)->Int->Int->Int->(List gJ)->Option f) (s:Option f) (i:List gu) (j l o:Int) (p:List gJ):Option f:=bH (rD i j p l o [124]) fun d=>cond d.2.1 (bH (Om d.1.1 d.1.2.1 d.1.2.2.1 d.1.2.2.2.1 d.1.2.2.2.2.1) fun e=>g e.1.1 e.1.2.1 e.1.2.2.2.1 e.1.2.2.2.2.1 e.1.2.2.1)<|h d.1.1 d.1.2.1 d.1.2.2.2.1 d.1.2.2.2.2.1 d.1.2.2.1
def J9 (q:iE):Nat->(List gu)->Int->Int->Int->(List gJ)->Option (aaM.den⊕abr.den)
 |0,_,_,_,_,_=>a7
 |n+1,d,e,f,g,h=>QV q (J9 q n) (fun i j l o p=>a6 (.inl ((),((),()),((i,j,l,o,()),p,())))) (a6 (.inr ((),((),()),()))) d e f g h
def azO (q:iE) (n:Nat) (v:Z8.den):=bm (J9 q n) v
noncomputable def akt (q:iE):dE:=fF atT Z8 aaM abr (.exit 0) (azO q bM) 6
def asE (q:iE) (l:List gu) (o:Int) (p:List gJ) (s u:Int):Option AV:=bH (rD l o p s u [40]) fun f=>bH (Om f.1.1 f.1.2.1 f.1.2.2.1 f.1.2.2.2.1 f.1.2.2.2.2.1) fun g=>bH (J9 q bM g.1.1 g.1.2.1 g.1.2.2.2.1 g.1.2.2.2.2.1 g.1.2.2.1) fun v=>dN v (fun h=>bH (rG h.2.2.1.1 h.2.2.1.2.1 h.2.2.2.1 h.2.2.1.2.2.1 h.2.2.1.2.2.2.1 [41]) fun i=>bH (pJ i.1.1 i.1.2.1 i.1.2.2.1 i.1.2.2.2.1 i.1.2.2.2.2.1) fun j=>bH (YL j.1.1 j.1.2.1 j.1.2.2.1 j.1.2.2.2.1 j.1.2.2.2.2.1) fun d=>cond d.2.1 (cond (bP 2 2) (cond (bP d.1.2.1 d.1.2.1) (cond (bP d.1.2.2.2.1 d.1.2.2.2.1) (cond (dY (bT d.1.2.2.1 [(2,(d.1.2.1,(0,(d.1.2.2.2.1,()))))]) 32) (cond (bP 2 2) (cond (bP d.1.2.1 d.1.2.1) (cond (bP d.1.2.2.2.1 d.1.2.2.2.1) (cond ((bP 2 2)&&((bP d.1.2.1 d.1.2.1)&&((bP 0 0)&&((bP d.1.2.2.2.1 d.1.2.2.2.1)&&true)))) (bH (q.q71 d.1.1 d.1.2.1 (bT d.1.2.2.1 [(2,(d.1.2.1,(0,(d.1.2.2.2.1,()))))]) (bI d.1.2.2.1) d.1.2.2.2.2.1) fun e=>cond (fD e.1.2.2.1 (bI d.1.2.2.1)) (cond (lZ (dC (bI d.1.2.2.1)) e.1.2.2.1) (a6 ((e.1.1,(e.1.2.1,((gX e.1.2.2.1 (dC (bI d.1.2.2.1)) ((dJ e.1.2.2.1 (0,(0,(0,(0,())))) (dC (bI d.1.2.2.1))).1,((dJ e.1.2.2.1 (0,(0,(0,(0,())))) (dC (bI d.1.2.2.1))).2.1,(e.1.2.1,((dJ e.1.2.2.1 (0,(0,(0,(0,())))) (dC (bI d.1.2.2.1))).2.2.2.1,()))))),(d.1.2.2.2.1,(e.1.2.2.2.2.1,()))))),())) a7) a7) a7) a7) a7) a7) a7) a7) a7) a7)<|some ((d.1.1,(d.1.2.1,(d.1.2.2.1,(d.1.2.2.2.1,(d.1.2.2.2.2.1,()))))),())) (fun b3=>a7)
noncomputable def ags (q:iE):Env:=gB prog tt [] [(270,2,atT),(270,600007,vz),(41,600003,jO)] [(270,2,akt q)] [] [(69,EK),(70,XM),(71,ail q),(106,CP),(259,acm),(260,EF)]
def alS (q:iE) {d:Type} (a:Z8.den->Option d) (b:aaM.den->Option d) (c:abr.den->Option d) (v:Z8.den):Option d:=bm (QV q (bl a) (bl b) (c ((),((),()),()))) v
theorem aAD (q:iE):dQ (ags q) 270 aqP (akt q):=lu (alS q) (h2:=by intros;simp only[alS,bl,bm,QV,cO,cZ,bG,bW,dh])
theorem aEL (q:iE):dM (ags q) 270 aDl:=nV [aqP] (aD (fM (aAD q)) aN)
theorem anC (q:iE) (H:H71 q):eu (ags q):=eB aN [270] (aD ⟨f270,aDl,by kernel_rfl,by kernel_rfl,aEL q⟩ aN) (hx:=(aD ni (aD EL (aD H.1 (aD qM (aD Gq (aD sN aN)))))))
def asD (q:iE) (g:List gu) (h:Int) (i:List gJ) (j l:Int):Option AV:=bH (rG g h i j l [100]) fun d=>bH (q.q268 d.1.1 d.1.2.1 d.1.2.2.1 d.1.2.2.2.1 d.1.2.2.2.2.1) fun e=>bH (rG e.1.1 e.1.2.1 e.1.2.2.1 e.1.2.2.2.1 e.1.2.2.2.2.1 [103]) fun f=>a6 ((f.1.1,(f.1.2.1,(f.1.2.2.1,(f.1.2.2.2.1,(f.1.2.2.2.2.1,()))))),())
noncomputable def aDB (q:iE):Env:=gB prog tt [] [] [] [] [(260,EF),(268,Gt q)]
theorem anB (q:iE) (H:H71 q):eu (aDB q):=eB aN [] aN (hx:=(aD sN (aD H.2.2.2.2.2.2.1 aN)))
def gI:Nat->iE
 |0=>⟨(fun _ _ _ _ _=>a7),(fun _ _ _ _ _=>a7),(fun _ _ _ _ _=>a7),(fun _ _ _ _ _=>a7),(fun _ _ _ _ _=>a7),(fun _ _ _ _ _=>a7),(fun _ _ _ _ _=>a7),(fun _ _ _ _ _=>a7),(fun _ _ _ _ _=>a7),(fun _ _ _ _ _=>a7),(fun _ _ _ _ _=>a7),(fun _ _ _ _ _=>a7),(fun _ _ _ _ _=>a7),(fun _ _ _ _ _=>a7),(fun _ _ _ _ _=>a7)⟩
 |r+1=>⟨aDL (gI r),asn (gI r),ac7 (gI r),asr (gI r),ass (gI r),zQ (gI r),asC (gI r),asx (gI r),asy (gI r),asz (gI r),aBz (gI r),asA (gI r),asB (gI r),asE (gI r),asD (gI r)⟩
def aDP (d:List gu) (e:Int) (f:List gJ) (g h:Int):Option AV:=(gI bM).q71 d e f g h
def aCA:fZ:=⟨90,GH,[],[],fun x y=>aDP x.1 x.2.1 x.2.2.1 x.2.2.2.1 x.2.2.2.2.1⟩
theorem aaa (q:iE) (d:H71 q):H71 ⟨aDL q,asn q,ac7 q,asr q,ass q,zQ q,asC q,asx q,asy q,asz q,aBz q,asA q,asB q,asE q,asD q⟩:=⟨sB (arU q d),sB (amM q d),sB (am2 q d),sB (am8 q d),sB (ani q d),sB (anh q d),sB (anA q d),sB (anr q d),sB (ant q d),sB (anu q d),sB (anv q d),sB (anw q d),sB (anx q d),sB (anC q d),sB (anB q d)⟩
theorem avu: ∀r,H71 (gI r)
 |0=>⟨nT fun _ _=>rfl,nT fun _ _=>rfl,nT fun _ _=>rfl,nT fun _ _=>rfl,nT fun _ _=>rfl,nT fun _ _=>rfl,nT fun _ _=>rfl,nT fun _ _=>rfl,nT fun _ _=>rfl,nT fun _ _=>rfl,nT fun _ _=>rfl,nT fun _ _=>rfl,nT fun _ _=>rfl,nT fun _ _=>rfl,nT fun _ _=>rfl⟩
 |r+1=>aaa _ (avu r)
theorem axt:dW prog 71 aCA:=(avu bM).1
noncomputable def b42:Code:=(f42.body).getD .skip
noncomputable def aBn:Code:=cA (cA (cB (b42)))
def aBR:eQ:=⟨[0,2,100001],[],[],[],[],[]⟩
def akQ:SQ:=⟨us [co,.u,ca] 26,c9,dq⟩
def ahr:SQ:=⟨us [] 29,c9,dq⟩
def ahN:SQ:=⟨us [] 29,c9,[]⟩
def ab5 {g:Type} (h:Bool->(List gu)->Int->Int->Int->(List gJ)->Option g) (s:(List gu)->Int->Int->Int->(List gJ)->Option g) (u:Option g) (l:Bool) (i:List gu) (j o p:Int) (q:List gJ):Option g:=cond (gV j (bI i)) (bH (rD i j q o p [110]) fun e=>cond e.2.1 (h l e.1.1 e.1.2.1 e.1.2.2.2.1 e.1.2.2.2.2.1 e.1.2.2.1)<|cond (!l) (bH (YL e.1.1 e.1.2.1 e.1.2.2.1 e.1.2.2.2.1 e.1.2.2.2.2.1) fun d=>cond d.2.1 (cond (bP 2 2) (cond (bP d.1.2.1 d.1.2.1) (cond (bP d.1.2.2.2.1 d.1.2.2.2.1) (cond (dY (bT d.1.2.2.1 [(2,(d.1.2.1,(0,(d.1.2.2.2.1,()))))]) 32) (cond (bP 2 2) (cond (bP d.1.2.1 d.1.2.1) (cond (bP d.1.2.2.2.1 d.1.2.2.2.1) (cond ((bP 2 2)&&((bP d.1.2.1 d.1.2.1)&&((bP 0 0)&&((bP d.1.2.2.2.1 d.1.2.2.2.1)&&true)))) (bH (aDP d.1.1 d.1.2.1 (bT d.1.2.2.1 [(2,(d.1.2.1,(0,(d.1.2.2.2.1,()))))]) (bI d.1.2.2.1) d.1.2.2.2.2.1) fun f=>cond (fD f.1.2.2.1 (bI d.1.2.2.1)) (cond (lZ (dC (bI d.1.2.2.1)) f.1.2.2.1) (h true f.1.1 f.1.2.1 d.1.2.2.2.1 f.1.2.2.2.2.1 (gX f.1.2.2.1 (dC (bI d.1.2.2.1)) ((dJ f.1.2.2.1 (0,(0,(0,(0,())))) (dC (bI d.1.2.2.1))).1,((dJ f.1.2.2.1 (0,(0,(0,(0,())))) (dC (bI d.1.2.2.1))).2.1,(f.1.2.1,((dJ f.1.2.2.1 (0,(0,(0,(0,())))) (dC (bI d.1.2.2.1))).2.2.2.1,())))))) a7) a7) a7) a7) a7) a7) a7) a7) a7) a7)<|bH (SS d.1.1 d.1.2.1 d.1.2.2.1 d.1.2.2.2.1 d.1.2.2.2.2.1 17) fun f=>h false f.1.1 f.1.2.1 f.1.2.2.2.1 f.1.2.2.2.2.1 f.1.2.2.1)<|bH (SS e.1.1 e.1.2.1 e.1.2.2.1 e.1.2.2.2.1 e.1.2.2.2.2.1 17) fun d=>h false d.1.1 d.1.2.1 d.1.2.2.2.1 d.1.2.2.2.2.1 d.1.2.2.1)<|s i j o p q
def MO:Nat->Bool->(List gu)->Int->Int->Int->(List gJ)->Option (ahr.den⊕ahN.den)
 |0,_,_,_,_,_,_=>a7
 |n+1,d,e,f,g,h,i=>ab5 (MO n) (fun j l o p q=>a6 (.inl ((),((),()),((j,l,o,p,()),q,())))) (a6 (.inr ((),((),()),()))) d e f g h i
def aE0 (n:Nat) (v:akQ.den):=bk (MO n) v
noncomputable def auD:dE:=fF aBR akQ ahr ahN (.exit 0) (aE0 bM) 6
def aDN (e:List gu) (f:Int) (g:List gJ) (h i:Int):Option AV:=bH (MO bM false e f h i g) fun j=>dN j (fun d=>a6 ((d.2.2.1.1,(d.2.2.1.2.1,(d.2.2.2.1,(d.2.2.1.2.2.1,(d.2.2.1.2.2.2.1,()))))),())) (fun l=>a7)
def aIP:fZ:=⟨90,GH,[],[],fun x y=>aDN x.1 x.2.1 x.2.2.1 x.2.2.2.1 x.2.2.2.2.1⟩
noncomputable def arE:Env:=gB prog tt [] [(42,1,aBR),(42,600006,vz),(41,600003,jO)] [(42,1,auD)] [] [(69,EK),(70,XM),(71,aCA),(72,amq)]
def avN {d:Type} (a:akQ.den->Option d) (b:ahr.den->Option d) (c:ahN.den->Option d) (v:akQ.den):Option d:=bk (ab5 (bj a) (bl b) (c ((),((),()),()))) v
theorem aFw:dQ arE 42 aBn auD:=lu (avN) (h2:=by intros;simp only[avN,bj,bl,bk,ab5,cO,cZ,bG,bW,dh])
theorem aId:dM arE 42 b42:=nV [aBn] (aD (fM (aFw)) aN)
theorem arF:eu arE:=eB aN [42] (aD ⟨f42,b42,by kernel_rfl,by kernel_rfl,aId⟩ aN) (hx:=(aD ni (aD EL (aD axt (aD Lr aN)))))
theorem axj:dW prog 42 aIP:=sB arF
def anO (e:List gu):Option ((List gJ)×Unit):=cond (bP 1 1) (cond (bP 0 0) (cond (bP (-1) (-1)) (cond (dY [(1,(0,(0,((-1),()))))] 32) (cond (bP 1 1) (cond (bP 0 0) (cond (bP (-1) (-1)) (cond ((bP 1 1)&&((bP 0 0)&&((bP 0 0)&&((bP (-1) (-1))&&true)))) (bH (aDN e 0 [(1,(0,(0,((-1),()))))] 0 0) fun d=>cond (fD d.1.2.2.1 0) (cond (lZ (dC 0) d.1.2.2.1) (a6 ((gX d.1.2.2.1 (dC 0) ((dJ d.1.2.2.1 (0,(0,(0,(0,())))) (dC 0)).1,((dJ d.1.2.2.1 (0,(0,(0,(0,())))) (dC 0)).2.1,(d.1.2.1,((dJ d.1.2.2.1 (0,(0,(0,(0,())))) (dC 0)).2.2.2.1,()))))),())) a7) a7) a7) a7) a7) a7) a7) a7) a7) a7
def aw3:Sum:=⟨[oG],[(.list nK,false)],fun x=>anO x.1⟩
theorem afp:dU prog 23 aw3:=qC [(23,600002,⟨[3],[],[],[],[],[]⟩),(41,600003,jO)] aN (sF axj aN)
noncomputable def b85:Code:=(f85.body).getD .skip
noncomputable def aBv:Code:=cA (cA (cB (cA (cB (cB (cB (b85)))))))
def aBY:eQ:=⟨[3,4,100005],[],[],[],[2],[]⟩
def akY:SP:=⟨us [.u,.u,.u,bR,bO] 25,[]⟩
def ahy:SP:=⟨us [] 30,[]⟩
def ahU:SP:=⟨us [.u,.u,ca] 27,[]⟩
def aca {f:Type} (g:bZ->Int->Option f) (h:Option f) (i:Bool->Option f) (e:bZ) (d:Int):Option f:=cond (leI (di .i64 d (bI e)) 65) (cond (fE (bI [32,33,32,123,32,125,32,99,97,115,101,32,100,111,32,100,111,110,101,32,101,108,105,102,32,101,108,115,101,32,101,115,97,99,32,102,105,32,102,111,114,32,105,102,32,105,110,32,116,104,101,110,32,117,110,116,105,108,32,119,104,105,108,101,32]) d (di .i64 d (bI e))) (cond (gG (sub [32,33,32,123,32,125,32,99,97,115,101,32,100,111,32,100,111,110,101,32,101,108,105,102,32,101,108,115,101,32,101,115,97,99,32,102,105,32,102,111,114,32,105,102,32,105,110,32,116,104,101,110,32,117,110,116,105,108,32,119,104,105,108,101,32] d (di .i64 d (bI e))) e) (i true)<|g e (di .i64 d 1)) a7) h
def TJ:Nat->bZ->Int->Option (ahy.den⊕ahU.den)
 |0,_,_=>a7
 |n+1,d,e=>aca (TJ n) (a6 (.inl ((),()))) (fun f=>a6 (.inr ((f,()),()))) d e
def aE8 (n:Nat) (v:akY.den):=TJ n v.1.1 v.1.2.1
noncomputable def auL:dE:=fJ aBY akY ahy ahU (.exit 0) (aE8 bM) 6
def ayD (d:bZ):Option pq:=cond (bP (bI d) 0) (a6 (false,()))<|bH (Gy 32 d) fun e=>cond e.1 (a6 (false,()))<|cond (iH [32] d) (cond (iH (bT [32] d) [32]) (bH (TJ bM (bT (bT [32] d) [32]) 0) fun f=>dN f (fun h=>a6 (false,())) (fun g=>a6 (g.1.1,()))) a7) a7
def aCC:Sum:=⟨[.str],NZ,fun x=>ayD x.1⟩
noncomputable def arY:Env:=iJ prog tt 85 [(56,aCw)] [(5,aBY)] [(5,auL)]
def avV {d:Type} (a:akY.den->Option d) (b:ahy.den->Option d) (c:ahU.den->Option d) (v:akY.den):Option d:=aca (aL a) (b ((),())) (aE c) v.1.1 v.1.2.1
theorem aFE:dQ arY 85 aBv auL:=uV (avV) (h2:=by intros;simp only[avV,aL,aE,aca,cO,cZ,bG,bW,dh])
theorem aIn:dM arY 85 b85:=nV [aBv] (aD (fM (aFE)) aN)
theorem arZ:eu arY:=eA f85 (aD EJ aN) (aIn)
theorem axv:dU prog 85 aCC:=sA arZ
noncomputable def b48:Code:=(Tryz.f48.body).getD .skip
noncomputable def aBp:Code:=cA (cA (cB (cA (cA (cB (cA (cB (cB (cB (b48))))))))))
def aBT:eQ:=⟨[1,3,100007],[],[],[],[2],[]⟩
def akS:SP:=⟨us [.u,cI,.u,bO] 59,[.box 1000001 66 [bO,bR,bO,bO]]⟩
def aht:SP:=⟨us [] 63,[]⟩
def ahP:SP:=⟨us [.u,.u,bR] 60,[]⟩
def ab7 {e:Type} (g:Int->Int->bZ->Int->Int->Option e) (h:Option e) (i:bZ->Option e) (d j:Int) (f:bZ) (l o:Int):Option e:=cond (leI d 17) (bH (YN d) fun p=>cond (gG p.1 f) (cond (fE (bI [97,111,121,60,60,60,60,60,60,60,60,60,38,59,124,40,41]) (eU .i64 d 1) d) (i (sub [97,111,121,60,60,60,60,60,60,60,60,60,38,59,124,40,41] (eU .i64 d 1) d)) a7)<|g (di .i64 d 1) j f l o) h
def TG:Nat->Int->Int->bZ->Int->Int->Option (aht.den⊕ahP.den)
 |0,_,_,_,_,_=>a7
 |n+1,d,e,f,g,h=>ab7 (TG n) (a6 (.inl ((),()))) (fun i=>a6 (.inr ((i,()),()))) d e f g h
def aE2 (n:Nat) (v:akS.den):=TG n v.1.1 v.2.1.1 v.2.1.2.1 v.2.1.2.2.1 v.2.1.2.2.2.1
noncomputable def auF:dE:=fJ aBT akS aht ahP (.exit 0) (aE2 bM) 6
def SL (d:gu):Option (bZ×Unit):=cond (bP d.1 2) (a6 ([110],()))<|cond (bP d.1 5) (a6 ([35],()))<|cond (bP d.1 4) (bH (TG bM 1 d.1 d.2.1 d.2.2.1 d.2.2.2.1) fun e=>dN e (fun g=>a6 ([63],())) (fun f=>a6 (f.1.1,())))<|cond (!(bP d.1 6)) (a6 ([63],()))<|bH (ayD d.2.1) fun e=>cond (!e.1) (a6 ([120],()))<|cond (bP (bI d.2.1) 1) (a6 (d.2.1,()))<|cond (gG d.2.1 [105,102]) (a6 ([105],()))<|cond (gG d.2.1 [105,110]) (a6 ([107],()))<|cond (gG d.2.1 [101,108,115,101]) (a6 ([108],()))<|cond (gG d.2.1 [101,115,97,99]) (a6 ([122],()))<|cond (gG d.2.1 [102,111,114]) (a6 ([114],()))<|cond (gG d.2.1 [100,111,110,101]) (a6 ([103],()))<|cond (gG d.2.1 [117,110,116,105,108]) (a6 ([119],()))<|cond (fE (bI d.2.1) 0 1) (a6 ((sub d.2.1 0 1),())) a7
def aCu:Sum:=⟨[Vb],tzI,fun x=>SL x.1⟩
noncomputable def arK:Env:=iJ prog tt 48 [(85,aCC),(84,amr)] [(7,aBT)] [(7,auF)]
def avP {d:Type} (a:akS.den->Option d) (b:aht.den->Option d) (c:ahP.den->Option d) (v:akS.den):Option d:=ab7 (fun e f g h i=>a ((e,()),((f,g,h,i,()),()))) (b ((),())) (aE c) v.1.1 v.2.1.1 v.2.1.2.1 v.2.1.2.2.1 v.2.1.2.2.2.1
theorem aFy:dQ arK 48 aBp auF:=uV (avP) (h2:=by intros;simp only[avP,aE,ab7,cO,cZ,bG,bW,dh])
theorem aIg:dM arK 48 b48:=nV [aBp] (aD (fM (aFy)) aN)
theorem arL:eu arK:=eA Tryz.f48 (aD axv (aD UZ aN)) (aIg)
theorem axm:dU prog 48 aCu:=sA arL
def asT (d:Int):Option pq:=cond (leI 9 d) (cond (leI d 14) (a6 (true,()))<|some ((bP d 16),()))<|some ((bP d 16),())
def aIR:Sum:=⟨[dA],NZ,fun x=>asT x.1⟩
theorem afs:dU prog 86 aIR:=qA f86 [] aN
def Df (h:List gu) (i:bZ) (g:List gJ) (d e j f:Int):Option (taF×CQ):=cond (bP f f) (cond (bP d d) (cond (bP e e) (cond (dY (bT g [(f,(d,(0,(e,()))))]) 32) (cond (bP f f) (cond (bP d d) (cond (bP e e) (cond ((bP f f)&&((bP d d)&&((bP 0 0)&&((bP e e)&&true)))) (bH (asT f) fun l=>cond l.1 (a6 ((h,(i,((bT g [(f,(d,(0,(e,()))))]),(d,((eU .i64 (bI (bT g [(f,(d,(0,(e,()))))])) 1),((di .i64 j 1),())))))),(e,())))<|some ((h,(i,((bT g [(f,(d,(0,(e,()))))]),(d,((eU .i64 (bI (bT g [(f,(d,(0,(e,()))))])) 1),(j,())))))),(e,()))) a7) a7) a7) a7) a7) a7) a7) a7
def Pv:fZ:=⟨100,Vd,[dA],[dA],fun x y=>Df x.1 x.2.1 x.2.2.1 x.2.2.2.1 x.2.2.2.2.1 x.2.2.2.2.2.1 y.1⟩
theorem qc:dW prog 49 Pv:=qB [] (sE afs aN)
def nU (f:List gu) (d:bZ) (g:List gJ) (e h i:Int) (j:bZ):Option (taF×pq):=cond (gV e (bI d)) (cond (fD d e) (bH (Gy (bY d e) j) fun l=>a6 ((f,(d,(g,(e,(h,(i,())))))),(l.1,()))) a7)<|some ((f,(d,(g,(e,(h,(i,())))))),(false,()))
def Hr:fZ:=⟨100,Vd,[.str],[.bool],fun x y=>nU x.1 x.2.1 x.2.2.1 x.2.2.2.1 x.2.2.2.2.1 x.2.2.2.2.2.1 y.1⟩
theorem kJ:dW prog 50 Hr:=qB [] (sE EJ aN)
def Wp (f:List gu) (g:bZ) (h:List gJ) (i j l:Int):Option (taF×pq):=bH (nU f g h i j l [60]) fun e=>cond e.2.1 (a6 ((e.1.1,(e.1.2.1,(e.1.2.2.1,(e.1.2.2.2.1,(e.1.2.2.2.2.1,(e.1.2.2.2.2.2.1,())))))),(true,())))<|bH (nU e.1.1 e.1.2.1 e.1.2.2.1 e.1.2.2.2.1 e.1.2.2.2.2.1 e.1.2.2.2.2.2.1 [35]) fun d=>cond d.2.1 (cond (gV (di .i64 d.1.2.2.2.1 1) (bI d.1.2.1)) (cond (fD d.1.2.1 (di .i64 d.1.2.2.2.1 1)) (a6 ((d.1.1,(d.1.2.1,(d.1.2.2.1,(d.1.2.2.2.1,(d.1.2.2.2.2.1,(d.1.2.2.2.2.2.1,())))))),((bP (bY d.1.2.1 (di .i64 d.1.2.2.2.1 1)) 60),()))) a7)<|some ((d.1.1,(d.1.2.1,(d.1.2.2.1,(d.1.2.2.2.1,(d.1.2.2.2.2.1,(d.1.2.2.2.2.2.1,())))))),(false,())))<|some ((d.1.1,(d.1.2.1,(d.1.2.2.1,(d.1.2.2.2.1,(d.1.2.2.2.2.1,(d.1.2.2.2.2.2.1,())))))),(false,()))
def aie:fZ:=⟨100,Vd,[],[.bool],fun x y=>Wp x.1 x.2.1 x.2.2.1 x.2.2.2.1 x.2.2.2.2.1 x.2.2.2.2.2.1⟩
theorem NI:dW prog 119 aie:=qB [] aN (sF kJ aN)
def SB (e:List gu) (f:bZ) (g:List gJ) (h i j:Int):Option (taF×pq):=bH (nU e f g h i j [123,40,105,119,114,99]) fun d=>cond d.2.1 (a6 ((d.1.1,(d.1.2.1,(d.1.2.2.1,(d.1.2.2.2.1,(d.1.2.2.2.2.1,(d.1.2.2.2.2.2.1,())))))),((gV d.1.2.2.2.2.2.1 200),())))<|some ((d.1.1,(d.1.2.1,(d.1.2.2.1,(d.1.2.2.2.1,(d.1.2.2.2.2.1,(d.1.2.2.2.2.2.1,())))))),(false,()))
def aws:fZ:=⟨100,Vd,[],[.bool],fun x y=>SB x.1 x.2.1 x.2.2.1 x.2.2.2.1 x.2.2.2.2.1 x.2.2.2.2.2.1⟩
theorem Xu:dW prog 120 aws:=qB [] aN (sF kJ aN)
def asU (g:List gu) (h:bZ) (i:List gJ) (j l o:Int):Option (taF×pq):=bH (nU g h i j l o [120]) fun d=>cond d.2.1 (a6 ((d.1.1,(d.1.2.1,(d.1.2.2.1,(d.1.2.2.2.1,(d.1.2.2.2.2.1,(d.1.2.2.2.2.2.1,())))))),(true,())))<|bH (Wp d.1.1 d.1.2.1 d.1.2.2.1 d.1.2.2.2.1 d.1.2.2.2.2.1 d.1.2.2.2.2.2.1) fun e=>cond e.2.1 (a6 ((e.1.1,(e.1.2.1,(e.1.2.2.1,(e.1.2.2.2.1,(e.1.2.2.2.2.1,(e.1.2.2.2.2.2.1,())))))),(true,())))<|bH (SB e.1.1 e.1.2.1 e.1.2.2.1 e.1.2.2.2.1 e.1.2.2.2.2.1 e.1.2.2.2.2.2.1) fun f=>a6 ((f.1.1,(f.1.2.1,(f.1.2.2.1,(f.1.2.2.2.1,(f.1.2.2.2.2.1,(f.1.2.2.2.2.2.1,())))))),(f.2.1,()))
def aCD:fZ:=⟨100,Vd,[],[.bool],fun x y=>asU x.1 x.2.1 x.2.2.1 x.2.2.2.1 x.2.2.2.2.1 x.2.2.2.2.2.1⟩
theorem aft:dW prog 87 aCD:=qB [] aN (sF kJ (sF NI (sF Xu aN)))
def PD (f:List gu) (g:bZ) (h:List gJ) (i j l:Int):Option (taF×pq):=bH (nU f g h i j l [33]) fun d=>cond d.2.1 (a6 ((d.1.1,(d.1.2.1,(d.1.2.2.1,(d.1.2.2.2.1,(d.1.2.2.2.2.1,(d.1.2.2.2.2.2.1,())))))),(true,())))<|bH (asU d.1.1 d.1.2.1 d.1.2.2.1 d.1.2.2.2.1 d.1.2.2.2.2.1 d.1.2.2.2.2.2.1) fun e=>a6 ((e.1.1,(e.1.2.1,(e.1.2.2.1,(e.1.2.2.2.1,(e.1.2.2.2.2.1,(e.1.2.2.2.2.2.1,())))))),(e.2.1,()))
def XL:fZ:=⟨100,Vd,[],[.bool],fun x y=>PD x.1 x.2.1 x.2.2.1 x.2.2.2.1 x.2.2.2.2.1 x.2.2.2.2.2.1⟩
theorem EH:dW prog 51 XL:=qB [] aN (sF kJ (sF aft aN))
end
section
open Option renaming some → a6, none → a7
open Tryz
open Go.RowKit
def L6 (d:List gJ) (e f:Int):=gX d (dC e) ((dJ d (0,(0,(0,(0,())))) (dC e)).1,((dJ d (0,(0,(0,(0,())))) (dC e)).2.1,(f,((dJ d (0,(0,(0,(0,())))) (dC e)).2.2.2.1,()))))
def pK (g:List gu) (h:bZ) (e:List gJ) (f d i j:Int):Option Jc:=cond (fD e d) (cond (lZ (dC d) e) (cond (fD (L6 e d f) d) (cond (lZ (dC d) (L6 e d f)) (bH (asT (dJ (L6 e d f) (0,(0,(0,(0,())))) (dC d)).1) fun l=>cond l.1 (a6 ((g,(h,((L6 e d f),(f,(j,((eU .i64 i 1),())))))),()))<|some ((g,(h,((L6 e d f),(f,(j,(i,())))))),())) a7) a7) a7) a7
def Px:fZ:=⟨100,Vd,[dA],[],fun x y=>pK x.1 x.2.1 x.2.2.1 x.2.2.2.1 x.2.2.2.2.1 x.2.2.2.2.2.1 y.1⟩
theorem qf:dW prog 54 Px:=qB [] (sE afs aN)
noncomputable def b89:Code:=(f89.body).getD .skip
noncomputable def aBx:Code:=cA (cA (cA (cB (cB (b89)))))
def ak0:SQ:=⟨us eD 13,c9,bE⟩
def ahA:SQ:=⟨us [.u,.u,.u,bO] 13,c9,bE⟩
def ahW:SQ:=⟨us d9 14,c9,[]⟩
def acd {e:Type} (g h:Int->(List gu)->bZ->Int->Int->Int->(List gJ)->Option e) (s:Int->Option e) (f:Int) (i:List gu) (j:bZ) (l o p:Int) (q:List gJ):Option e:=bH (nU i j q l o p [110]) fun d=>cond d.2.1 (g (di .i64 f 1) d.1.1 d.1.2.1 (di .i64 d.1.2.2.2.1 1) d.1.2.2.2.2.1 d.1.2.2.2.2.2.1 d.1.2.2.1)<|h f d.1.1 d.1.2.1 d.1.2.2.2.1 d.1.2.2.2.2.1 d.1.2.2.2.2.2.1 d.1.2.2.1
def TM:Nat->Int->(List gu)->bZ->Int->Int->Int->(List gJ)->Option (ahA.den⊕ahW.den)
 |0,_,_,_,_,_,_,_=>a7
 |n+1,d,e,f,g,h,i,j=>acd (TM n) (fun l o p q s u v=>a6 (.inl ((l,()),((),()),((o,p,q,s,u,()),v,())))) (fun x=>a6 (.inr ((x,()),((),()),()))) d e f g h i j
def aFa (n:Nat) (v:ak0.den):=bs (TM n) v
noncomputable def auN:dE:=fF YX ak0 ahA ahW (.exit 0) (aFa bM) 6
def rU (e:List gu) (f:bZ) (g:List gJ) (h i j:Int):Option (taF×CQ):=bH (TM bM 0 e f h i j g) fun l=>dN l (fun d=>a6 ((d.2.2.1.1,(d.2.2.1.2.1,(d.2.2.2.1,(d.2.2.1.2.2.1,(d.2.2.1.2.2.2.1,(d.2.2.1.2.2.2.2.1,())))))),(d.1.1,()))) (fun o=>a7)
def Py:fZ:=⟨100,Vd,[],[dA],fun x y=>rU x.1 x.2.1 x.2.2.1 x.2.2.2.1 x.2.2.2.2.1 x.2.2.2.2.2.1⟩
noncomputable def ar2:Env:=gB prog tt [] [(89,2,YX)] [(89,2,auN)] [] [(50,Hr)]
def avX {d:Type} (a:ak0.den->Option d) (b:ahA.den->Option d) (c:ahW.den->Option d) (v:ak0.den):Option d:=bs (acd (br a) (br b) (fun e=>c ((e,()),((),()),()))) v
theorem aFG:dQ ar2 89 aBx auN:=lu (avX) (h2:=by intros;simp only[avX,br,bs,acd,cO,cZ,bG,bW,dh])
theorem aIp:dM ar2 89 b89:=nV [aBx] (aD (fM (aFG)) aN)
theorem ar4:eu ar2:=eB aN [89] (aD ⟨f89,b89,by kernel_rfl,by kernel_rfl,aIp⟩ aN) (hx:=(aD kJ aN))
theorem xy:dW prog 89 Py:=sB ar4
def uw (f:List gu) (g:bZ) (h:List gJ) (i j l:Int):Option Jc:=bH (Df f g h i j l 18) fun d=>bH (pK d.1.1 d.1.2.1 d.1.2.2.1 d.1.2.2.2.1 d.1.2.2.2.2.1 d.1.2.2.2.2.2.1 d.2.1) fun e=>a6 ((e.1.1,(e.1.2.1,(e.1.2.2.1,(e.1.2.2.2.1,(e.1.2.2.2.2.1,(e.1.2.2.2.2.2.1,())))))),())
def UV:fZ:=⟨100,Vd,[],[],fun x y=>uw x.1 x.2.1 x.2.2.1 x.2.2.2.1 x.2.2.2.2.1 x.2.2.2.2.2.1⟩
theorem wH:dW prog 122 UV:=qB [] aN (sF qc (sF qf aN))
def LZ (f:List gu) (g:bZ) (h:List gJ) (i j l o:Int):Option Jc:=bH (Df f g h i j l o) fun d=>bH (pK d.1.1 d.1.2.1 d.1.2.2.1 (di .i64 d.1.2.2.2.1 1) d.1.2.2.2.2.1 d.1.2.2.2.2.2.1 d.2.1) fun e=>a6 ((e.1.1,(e.1.2.1,(e.1.2.2.1,(e.1.2.2.2.1,(e.1.2.2.2.2.1,(e.1.2.2.2.2.2.1,())))))),())
def amo:fZ:=⟨100,Vd,[dA],[],fun x y=>LZ x.1 x.2.1 x.2.2.1 x.2.2.2.1 x.2.2.2.2.1 x.2.2.2.2.2.1 y.1⟩
theorem Lp:dW prog 53 amo:=qB [] aN (sF qc (sF qf aN))
def mX (f:List gu) (g:bZ) (h:List gJ) (i j l:Int) (o:bZ):Option Jc:=bH (nU f g h i j l o) fun d=>cond d.2.1 (a6 ((d.1.1,(d.1.2.1,(d.1.2.2.1,((di .i64 d.1.2.2.2.1 1),(d.1.2.2.2.2.1,(d.1.2.2.2.2.2.1,())))))),()))<|bH (uw d.1.1 d.1.2.1 d.1.2.2.1 d.1.2.2.2.1 d.1.2.2.2.2.1 d.1.2.2.2.2.2.1) fun e=>a6 ((e.1.1,(e.1.2.1,(e.1.2.2.1,(e.1.2.2.2.1,(e.1.2.2.2.2.1,(e.1.2.2.2.2.2.1,())))))),())
def UW:fZ:=⟨100,Vd,[.str],[],fun x y=>mX x.1 x.2.1 x.2.2.1 x.2.2.2.1 x.2.2.2.2.1 x.2.2.2.2.2.1 y.1⟩
theorem Gp:dW prog 187 UW:=qB [] aN (sF kJ (sF wH aN))
def wX (e:List gu) (g:bZ) (h:List gJ) (f i j:Int):Option Jc:=cond (gV f (bI e)) (cond (fD e f) (cond (bP (dw e (0,([],(0,(0,())))) f).1 6) (bH (LZ e g h f i j 7) fun d=>a6 ((d.1.1,(d.1.2.1,(d.1.2.2.1,(d.1.2.2.2.1,(d.1.2.2.2.2.1,(d.1.2.2.2.2.2.1,())))))),()))<|bH (uw e g h f i j) fun d=>a6 ((d.1.1,(d.1.2.1,(d.1.2.2.1,(d.1.2.2.2.1,(d.1.2.2.2.2.1,(d.1.2.2.2.2.2.1,())))))),())) a7)<|bH (uw e g h f i j) fun d=>a6 ((d.1.1,(d.1.2.1,(d.1.2.2.1,(d.1.2.2.2.1,(d.1.2.2.2.2.1,(d.1.2.2.2.2.2.1,())))))),())
def aw4:fZ:=⟨100,Vd,[],[],fun x y=>wX x.1 x.2.1 x.2.2.1 x.2.2.2.1 x.2.2.2.2.1 x.2.2.2.2.2.1⟩
theorem XI:dW prog 234 aw4:=qB [] aN (sF Lp (sF wH aN))
def adq (h:List gu) (i:bZ) (j:List gJ) (l o p:Int):Option Jc:=bH (Df h i j l o p 8) fun g=>bH (nU g.1.1 g.1.2.1 g.1.2.2.1 g.1.2.2.2.1 g.1.2.2.2.2.1 g.1.2.2.2.2.2.1 [35]) fun d=>cond d.2.1 (bH (wX d.1.1 d.1.2.1 d.1.2.2.1 (di .i64 (di .i64 d.1.2.2.2.1 1) 1) d.1.2.2.2.2.1 d.1.2.2.2.2.2.1) fun e=>bH (pK e.1.1 e.1.2.1 e.1.2.2.1 e.1.2.2.2.1 e.1.2.2.2.2.1 e.1.2.2.2.2.2.1 g.2.1) fun f=>a6 ((f.1.1,(f.1.2.1,(f.1.2.2.1,(f.1.2.2.2.1,(f.1.2.2.2.2.1,(f.1.2.2.2.2.2.1,())))))),()))<|bH (wX d.1.1 d.1.2.1 d.1.2.2.1 (di .i64 d.1.2.2.2.1 1) d.1.2.2.2.2.1 d.1.2.2.2.2.2.1) fun e=>bH (pK e.1.1 e.1.2.1 e.1.2.2.1 e.1.2.2.2.1 e.1.2.2.2.2.1 e.1.2.2.2.2.2.1 g.2.1) fun f=>a6 ((f.1.1,(f.1.2.1,(f.1.2.2.1,(f.1.2.2.2.1,(f.1.2.2.2.2.1,(f.1.2.2.2.2.2.1,())))))),())
def aii:fZ:=⟨100,Vd,[],[],fun x y=>adq x.1 x.2.1 x.2.2.1 x.2.2.2.1 x.2.2.2.2.1 x.2.2.2.2.2.1⟩
theorem XE:dW prog 188 aii:=qB [] aN (sF qc (sF kJ (sF qf (sF XI aN))))
noncomputable def aHe:Code:=(f189.body).getD .skip
noncomputable def aqA:Code:=cA (cA (cB (cA (cB (aHe)))))
def atC:eQ:=⟨[0,3,100002],[],[],[],[2],[]⟩
def ZN:SP:=⟨us [bR,.u,.u,bO] 17,[]⟩
def aax:SP:=⟨us [] 21,[]⟩
def aba:SP:=⟨us d9 18,[]⟩
def QK {f:Type} (g:bZ->Int->Option f) (h:Option f) (i:Int->Option f) (e:bZ) (d:Int):Option f:=cond (gV d (bI e)) (cond (fD e d) (cond (bP (bY e d) 61) (cond (fE (bI e) 0 d) (bH (YJ (sub e 0 d)) fun j=>cond j.1 (i d)<|g e (di .i64 d 1)) a7)<|g e (di .i64 d 1)) a7) h
def FD:Nat->bZ->Int->Option (aax.den⊕aba.den)
 |0,_,_=>a7
 |n+1,d,e=>QK (FD n) (a6 (.inl ((),()))) (fun f=>a6 (.inr ((f,()),()))) d e
def azz (n:Nat) (v:ZN.den):=FD n v.1.1 v.1.2.1
noncomputable def ake:dE:=fJ atC ZN aax aba (.exit 0) (azz bM) 6
def ajb (d:bZ):Option CQ:=bH (FD bM d 1) fun e=>dN e (fun g=>a6 (0,())) (fun f=>a6 (f.1.1,()))
def awM:Sum:=⟨[.str],Ve,fun x=>ajb x.1⟩
noncomputable def agh:Env:=iJ prog tt 189 [(32,XK)] [(2,atC)] [(2,ake)]
def alD {d:Type} (a:ZN.den->Option d) (b:aax.den->Option d) (c:aba.den->Option d) (v:ZN.den):Option d:=QK (aL a) (b ((),())) (aE c) v.1.1 v.1.2.1
theorem aAo:dQ agh 189 aqA ake:=uV (alD) (h2:=by intros;simp only[alD,aL,aE,QK,cO,cZ,bG,bW,dh])
theorem aEy:dM agh 189 aHe:=nV [aqA] (aD (fM (aAo)) aN)
theorem ane:eu agh:=eA f189 (aD EG aN) (aEy)
theorem apd:dU prog 189 awM:=sA ane
structure iY where
 q52:(List gu)->bZ->(List gJ)->Int->Int->Int->Option Jc
 q88:(List gu)->bZ->(List gJ)->Int->Int->Int->Option Jc
 q121:(List gu)->bZ->(List gJ)->Int->Int->Int->Option Jc
 q155:(List gu)->bZ->(List gJ)->Int->Int->Int->Option Jc
 q230:(List gu)->bZ->(List gJ)->Int->Int->Int->Option Jc
 q231:(List gu)->bZ->(List gJ)->Int->Int->Int->Option Jc
 q186:(List gu)->bZ->(List gJ)->Int->Int->Int->Option Jc
 q232:(List gu)->bZ->(List gJ)->Int->Int->Int->Option Jc
 q233:(List gu)->bZ->(List gJ)->Int->Int->Int->Option Jc
def aik (q:iY):fZ:=⟨100,Vd,[],[],fun x y=>q.q52 x.1 x.2.1 x.2.2.1 x.2.2.2.1 x.2.2.2.2.1 x.2.2.2.2.2.1⟩
def axw (q:iY):fZ:=⟨100,Vd,[],[],fun x y=>q.q88 x.1 x.2.1 x.2.2.1 x.2.2.2.1 x.2.2.2.2.1 x.2.2.2.2.2.1⟩
def al7 (q:iY):fZ:=⟨100,Vd,[],[],fun x y=>q.q121 x.1 x.2.1 x.2.2.1 x.2.2.2.1 x.2.2.2.2.1 x.2.2.2.2.2.1⟩
def al9 (q:iY):fZ:=⟨100,Vd,[],[],fun x y=>q.q155 x.1 x.2.1 x.2.2.1 x.2.2.2.1 x.2.2.2.2.1 x.2.2.2.2.2.1⟩
def ack (q:iY):fZ:=⟨100,Vd,[],[],fun x y=>q.q230 x.1 x.2.1 x.2.2.1 x.2.2.2.1 x.2.2.2.2.1 x.2.2.2.2.2.1⟩
def acl (q:iY):fZ:=⟨100,Vd,[],[],fun x y=>q.q231 x.1 x.2.1 x.2.2.1 x.2.2.2.1 x.2.2.2.2.1 x.2.2.2.2.2.1⟩
def amb (q:iY):fZ:=⟨100,Vd,[],[],fun x y=>q.q186 x.1 x.2.1 x.2.2.1 x.2.2.2.1 x.2.2.2.2.1 x.2.2.2.2.2.1⟩
def amd (q:iY):fZ:=⟨100,Vd,[],[],fun x y=>q.q232 x.1 x.2.1 x.2.2.1 x.2.2.2.1 x.2.2.2.2.1 x.2.2.2.2.2.1⟩
def ame (q:iY):fZ:=⟨100,Vd,[],[],fun x y=>q.q233 x.1 x.2.1 x.2.2.1 x.2.2.2.1 x.2.2.2.2.1 x.2.2.2.2.2.1⟩
noncomputable def b52:Code:=(f52.body).getD .skip
noncomputable def aBq:Code:=cA (cA (cA (cB (cB (b52)))))
def ajJ:eQ:=⟨[0,2,100002],[],[0,2],[],[],[]⟩
def akT:SQ:=⟨us eT 27,c9,bE⟩
def aaO:SQ:=⟨us eT 27,c9,bE⟩
def abu:SQ:=⟨us [] 30,c9,[]⟩
def NE (q:iY) {i:Type} (l j:Int->(List gu)->bZ->Int->Int->Int->(List gJ)->Option i) (y:Option i) (h:Int) (o:List gu) (p:bZ) (s u v:Int) (x:List gJ):Option i:=bH (nU o p x s u v [59,38]) fun f=>cond f.2.1 (bH (rU f.1.1 f.1.2.1 f.1.2.2.1 (di .i64 f.1.2.2.2.1 1) f.1.2.2.2.2.1 f.1.2.2.2.2.2.1) fun e=>bH (PD e.1.1 e.1.2.1 e.1.2.2.1 e.1.2.2.2.1 e.1.2.2.2.2.1 e.1.2.2.2.2.2.1) fun d=>cond (!d.2.1) (j h d.1.1 d.1.2.1 d.1.2.2.2.1 d.1.2.2.2.2.1 d.1.2.2.2.2.2.1 d.1.2.2.1)<|bH (q.q88 d.1.1 d.1.2.1 d.1.2.2.1 d.1.2.2.2.1 d.1.2.2.2.2.1 d.1.2.2.2.2.2.1) fun g=>l h g.1.1 g.1.2.1 g.1.2.2.2.1 g.1.2.2.2.2.1 g.1.2.2.2.2.2.1 g.1.2.2.1)<|bH (rU f.1.1 f.1.2.1 f.1.2.2.1 f.1.2.2.2.1 f.1.2.2.2.2.1 f.1.2.2.2.2.2.1) fun e=>cond (bP e.2.1 0) (j h e.1.1 e.1.2.1 e.1.2.2.2.1 e.1.2.2.2.2.1 e.1.2.2.2.2.2.1 e.1.2.2.1)<|bH (PD e.1.1 e.1.2.1 e.1.2.2.1 e.1.2.2.2.1 e.1.2.2.2.2.1 e.1.2.2.2.2.2.1) fun d=>cond (!d.2.1) (j h d.1.1 d.1.2.1 d.1.2.2.2.1 d.1.2.2.2.2.1 d.1.2.2.2.2.2.1 d.1.2.2.1)<|bH (q.q88 d.1.1 d.1.2.1 d.1.2.2.1 d.1.2.2.2.1 d.1.2.2.2.2.1 d.1.2.2.2.2.2.1) fun g=>l h g.1.1 g.1.2.1 g.1.2.2.2.1 g.1.2.2.2.2.1 g.1.2.2.2.2.2.1 g.1.2.2.1
def yQ (q:iY):Nat->Int->(List gu)->bZ->Int->Int->Int->(List gJ)->Option (aaO.den⊕abu.den)
 |0,_,_,_,_,_,_,_=>a7
 |n+1,d,e,f,g,h,i,j=>NE q (yQ q n) (fun l o p s u v x=>a6 (.inl ((l,()),((),()),((o,p,s,u,v,()),x,())))) (a6 (.inr ((),((),()),()))) d e f g h i j
def aE3 (q:iY) (n:Nat) (v:akT.den):=bs (yQ q n) v
noncomputable def auG (q:iY):dE:=fF ajJ akT aaO abu (.exit 0) (aE3 q bM) 6
def aDK (q:iY) (h:List gu) (i:bZ) (j:List gJ) (l o p:Int):Option Jc:=bH (Df h i j l o p 2) fun d=>bH (q.q88 d.1.1 d.1.2.1 d.1.2.2.1 d.1.2.2.2.1 d.1.2.2.2.2.1 d.1.2.2.2.2.2.1) fun f=>bH (yQ q bM d.2.1 f.1.1 f.1.2.1 f.1.2.2.2.1 f.1.2.2.2.2.1 f.1.2.2.2.2.2.1 f.1.2.2.1) fun s=>dN s (fun e=>bH (pK e.2.2.1.1 e.2.2.1.2.1 e.2.2.2.1 e.2.2.1.2.2.1 e.2.2.1.2.2.2.1 e.2.2.1.2.2.2.2.1 e.1.1) fun g=>a6 ((g.1.1,(g.1.2.1,(g.1.2.2.1,(g.1.2.2.2.1,(g.1.2.2.2.2.1,(g.1.2.2.2.2.2.1,())))))),())) (fun b3=>a7)
noncomputable def arM (q:iY):Env:=gB prog tt [] [(52,2,ajJ)] [(52,2,auG q)] [] [(49,Pv),(50,Hr),(51,XL),(54,Px),(88,axw q),(89,Py)]
def avQ (q:iY) {d:Type} (a:akT.den->Option d) (b:aaO.den->Option d) (c:abu.den->Option d) (v:akT.den):Option d:=bs (NE q (br a) (br b) (c ((),((),()),()))) v
theorem aFz (q:iY):dQ (arM q) 52 aBq (auG q):=lu (avQ q) (h2:=by intros;simp only[avQ,br,bs,NE,cO,cZ,bG,bW,dh])
theorem aIh (q:iY):dM (arM q) 52 b52:=nV [aBq] (aD (fM (aFz q)) aN)
abbrev H52 (q:iY):Prop:=dW prog 52 (aik q)/\dW prog 88 (axw q)/\dW prog 121 (al7 q)/\dW prog 155 (al9 q)/\dW prog 230 (ack q)/\dW prog 231 (acl q)/\dW prog 186 (amb q)/\dW prog 232 (amd q)/\dW prog 233 (ame q)
theorem arN (q:iY) (H:H52 q):eu (arM q):=eB aN [52] (aD ⟨f52,b52,by kernel_rfl,by kernel_rfl,aIh q⟩ aN) (hx:=(aD qc (aD kJ (aD EH (aD qf (aD H.2.1 (aD xy aN)))))))
noncomputable def b88:Code:=(f88.body).getD .skip
noncomputable def aBw:Code:=cA (cA (cA (cB (cB (b88)))))
def akZ:SQ:=⟨us eT 25,c9,bE⟩
def ahz:SQ:=⟨us eT 25,c9,bE⟩
def ahV:SQ:=⟨us [] 28,c9,[]⟩
def acb (q:iY) {h:Type} (j l:Int->(List gu)->bZ->Int->Int->Int->(List gJ)->Option h) (y:Option h) (i:Int) (o:List gu) (p:bZ) (s u v:Int) (x:List gJ):Option h:=bH (nU o p x s u v [97,111]) fun d=>cond d.2.1 (bH (rU d.1.1 d.1.2.1 d.1.2.2.1 (di .i64 d.1.2.2.2.1 1) d.1.2.2.2.2.1 d.1.2.2.2.2.2.1) fun g=>bH (PD g.1.1 g.1.2.1 g.1.2.2.1 g.1.2.2.2.1 g.1.2.2.2.2.1 g.1.2.2.2.2.2.1) fun e=>cond e.2.1 (bH (q.q121 e.1.1 e.1.2.1 e.1.2.2.1 e.1.2.2.2.1 e.1.2.2.2.2.1 e.1.2.2.2.2.2.1) fun f=>j i f.1.1 f.1.2.1 f.1.2.2.2.1 f.1.2.2.2.2.1 f.1.2.2.2.2.2.1 f.1.2.2.1)<|bH (uw e.1.1 e.1.2.1 e.1.2.2.1 e.1.2.2.2.1 e.1.2.2.2.2.1 e.1.2.2.2.2.2.1) fun f=>j i f.1.1 f.1.2.1 f.1.2.2.2.1 f.1.2.2.2.2.1 f.1.2.2.2.2.2.1 f.1.2.2.1)<|l i d.1.1 d.1.2.1 d.1.2.2.2.1 d.1.2.2.2.2.1 d.1.2.2.2.2.2.1 d.1.2.2.1
def TL (q:iY):Nat->Int->(List gu)->bZ->Int->Int->Int->(List gJ)->Option (ahz.den⊕ahV.den)
 |0,_,_,_,_,_,_,_=>a7
 |n+1,d,e,f,g,h,i,j=>acb q (TL q n) (fun l o p s u v x=>a6 (.inl ((l,()),((),()),((o,p,s,u,v,()),x,())))) (a6 (.inr ((),((),()),()))) d e f g h i j
def aE9 (q:iY) (n:Nat) (v:akZ.den):=bs (TL q n) v
noncomputable def auM (q:iY):dE:=fF ajJ akZ ahz ahV (.exit 0) (aE9 q bM) 6
def aDM (q:iY) (h:List gu) (i:bZ) (j:List gJ) (l o p:Int):Option Jc:=bH (Df h i j l o p 3) fun d=>bH (q.q121 d.1.1 d.1.2.1 d.1.2.2.1 d.1.2.2.2.1 d.1.2.2.2.2.1 d.1.2.2.2.2.2.1) fun f=>bH (TL q bM d.2.1 f.1.1 f.1.2.1 f.1.2.2.2.1 f.1.2.2.2.2.1 f.1.2.2.2.2.2.1 f.1.2.2.1) fun s=>dN s (fun e=>bH (pK e.2.2.1.1 e.2.2.1.2.1 e.2.2.2.1 e.2.2.1.2.2.1 e.2.2.1.2.2.2.1 e.2.2.1.2.2.2.2.1 e.1.1) fun g=>a6 ((g.1.1,(g.1.2.1,(g.1.2.2.1,(g.1.2.2.2.1,(g.1.2.2.2.2.1,(g.1.2.2.2.2.2.1,())))))),())) (fun b3=>a7)
noncomputable def ar0 (q:iY):Env:=gB prog tt [] [(88,2,ajJ)] [(88,2,auM q)] [] [(49,Pv),(50,Hr),(51,XL),(54,Px),(89,Py),(121,al7 q),(122,UV)]
def avW (q:iY) {d:Type} (a:akZ.den->Option d) (b:ahz.den->Option d) (c:ahV.den->Option d) (v:akZ.den):Option d:=bs (acb q (br a) (br b) (c ((),((),()),()))) v
theorem aFF (q:iY):dQ (ar0 q) 88 aBw (auM q):=lu (avW q) (h2:=by intros;simp only[avW,br,bs,acb,cO,cZ,bG,bW,dh])
theorem aIo (q:iY):dM (ar0 q) 88 b88:=nV [aBw] (aD (fM (aFF q)) aN)
theorem ar1 (q:iY) (H:H52 q):eu (ar0 q):=eB aN [88] (aD ⟨f88,b88,by kernel_rfl,by kernel_rfl,aIo q⟩ aN) (hx:=(aD qc (aD kJ (aD EH (aD qf (aD xy (aD H.2.2.1 (aD wH aN))))))))
noncomputable def aDb:Code:=(f121.body).getD .skip
noncomputable def aql:Code:=cA (cA (cA (cB (cB (cB (aDb))))))
def atp:eQ:=⟨[0,2,100004],[],[0,2],[],[],[]⟩
def Zx:SQ:=⟨us eT 31,c9,bE⟩
def aaj:SQ:=⟨us eT 31,c9,bE⟩
def aaW:SQ:=⟨us [] 34,c9,[]⟩
def Qy (q:iY) {g:Type} (i j:Int->(List gu)->bZ->Int->Int->Int->(List gJ)->Option g) (x:Option g) (h:Int) (l:List gu) (o:bZ) (p s u:Int) (v:List gJ):Option g:=bH (nU l o v p s u [124]) fun d=>cond d.2.1 (bH (rU d.1.1 d.1.2.1 d.1.2.2.1 (di .i64 d.1.2.2.2.1 1) d.1.2.2.2.2.1 d.1.2.2.2.2.2.1) fun e=>bH (q.q155 e.1.1 e.1.2.1 e.1.2.2.1 e.1.2.2.2.1 e.1.2.2.2.2.1 e.1.2.2.2.2.2.1) fun f=>i h f.1.1 f.1.2.1 f.1.2.2.2.1 f.1.2.2.2.2.1 f.1.2.2.2.2.2.1 f.1.2.2.1)<|j h d.1.1 d.1.2.1 d.1.2.2.2.1 d.1.2.2.2.2.1 d.1.2.2.2.2.2.1 d.1.2.2.1
def BG (q:iY):Nat->Int->(List gu)->bZ->Int->Int->Int->(List gJ)->Option (aaj.den⊕aaW.den)
 |0,_,_,_,_,_,_,_=>a7
 |n+1,d,e,f,g,h,i,j=>Qy q (BG q n) (fun l o p s u v x=>a6 (.inl ((l,()),((),()),((o,p,s,u,v,()),x,())))) (a6 (.inr ((),((),()),()))) d e f g h i j
def azk (q:iY) (n:Nat) (v:Zx.den):=bs (BG q n) v
noncomputable def ajY (q:iY):dE:=fF atp Zx aaj aaW (.exit 0) (azk q bM) 6
def aso (q:iY) (j:List gu) (l:bZ) (o:List gJ) (p s u:Int):Option Jc:=bH (Df j l o p s u 4) fun h=>bH (nU h.1.1 h.1.2.1 h.1.2.2.1 h.1.2.2.2.1 h.1.2.2.2.2.1 h.1.2.2.2.2.2.1 [33]) fun e=>cond e.2.1 (bH (q.q155 e.1.1 e.1.2.1 e.1.2.2.1 (di .i64 e.1.2.2.2.1 1) e.1.2.2.2.2.1 e.1.2.2.2.2.2.1) fun f=>bH (BG q bM h.2.1 f.1.1 f.1.2.1 f.1.2.2.2.1 f.1.2.2.2.2.1 f.1.2.2.2.2.2.1 f.1.2.2.1) fun i=>dN i (fun d=>bH (pK d.2.2.1.1 d.2.2.1.2.1 d.2.2.2.1 d.2.2.1.2.2.1 d.2.2.1.2.2.2.1 d.2.2.1.2.2.2.2.1 d.1.1) fun g=>a6 ((g.1.1,(g.1.2.1,(g.1.2.2.1,(g.1.2.2.2.1,(g.1.2.2.2.2.1,(g.1.2.2.2.2.2.1,())))))),())) (fun v=>a7))<|bH (q.q155 e.1.1 e.1.2.1 e.1.2.2.1 e.1.2.2.2.1 e.1.2.2.2.2.1 e.1.2.2.2.2.2.1) fun f=>bH (BG q bM h.2.1 f.1.1 f.1.2.1 f.1.2.2.2.1 f.1.2.2.2.2.1 f.1.2.2.2.2.2.1 f.1.2.2.1) fun i=>dN i (fun d=>bH (pK d.2.2.1.1 d.2.2.1.2.1 d.2.2.2.1 d.2.2.1.2.2.1 d.2.2.1.2.2.2.1 d.2.2.1.2.2.2.2.1 d.1.1) fun g=>a6 ((g.1.1,(g.1.2.1,(g.1.2.2.1,(g.1.2.2.2.1,(g.1.2.2.2.2.1,(g.1.2.2.2.2.2.1,())))))),())) (fun v=>a7)
noncomputable def af2 (q:iY):Env:=gB prog tt [] [(121,4,atp)] [(121,4,ajY q)] [] [(49,Pv),(50,Hr),(54,Px),(89,Py),(155,al9 q)]
def alm (q:iY) {d:Type} (a:Zx.den->Option d) (b:aaj.den->Option d) (c:aaW.den->Option d) (v:Zx.den):Option d:=bs (Qy q (br a) (br b) (c ((),((),()),()))) v
theorem az9 (q:iY):dQ (af2 q) 121 aql (ajY q):=lu (alm q) (h2:=by intros;simp only[alm,br,bs,Qy,cO,cZ,bG,bW,dh])
theorem aEh (q:iY):dM (af2 q) 121 aDb:=nV [aql] (aD (fM (az9 q)) aN)
theorem amT (q:iY) (H:H52 q):eu (af2 q):=eB aN [121] (aD ⟨f121,aDb,by kernel_rfl,by kernel_rfl,aEh q⟩ aN) (hx:=(aD qc (aD kJ (aD qf (aD xy (aD H.2.2.2.1 aN))))))
noncomputable def afQ:Code:=(Tryz.f155.body).getD .skip
noncomputable def aix:Code:=cA (cA (cA (cB (cB (cB (cB (cB (afQ))))))))
noncomputable def xO:Code:=cB (cB (cB (afQ)))
def ajC:eQ:=⟨[0,3,4,100016],[],[0,3],[],[],[]⟩
def xW:eQ:=⟨[0,900014],[],[],[],[],[]⟩
def PX:SQ:=⟨us [co,.u,.u,bO,bO] 139,c9,bE⟩
def Ug:SQ:=⟨us eD 140,c9,bE⟩
def Un:SQ:=⟨us [] 144,c9,[]⟩
def KW (q:iY) {i:Type} (j:Int->Int->(List gu)->bZ->Int->Int->Int->(List gJ)->Option i) (l:Int->(List gu)->bZ->Int->Int->Int->(List gJ)->Option i) (y:Option i) (g h:Int) (o:List gu) (p:bZ) (s u v:Int) (x:List gJ):Option i:=bH (Wp o p x s u v) fun d=>cond d.2.1 (bH (adq d.1.1 d.1.2.1 d.1.2.2.1 d.1.2.2.2.1 d.1.2.2.2.2.1 d.1.2.2.2.2.2.1) fun e=>j g h e.1.1 e.1.2.1 e.1.2.2.2.1 e.1.2.2.2.2.1 e.1.2.2.2.2.2.1 e.1.2.2.1)<|cond (gV d.1.2.2.2.1 (bI d.1.1)) (cond (fD d.1.1 d.1.2.2.2.1) (cond (bP (dw d.1.1 (0,([],(0,(0,())))) d.1.2.2.2.1).1 6) (cond (bP h 0) (cond (fD d.1.1 d.1.2.2.2.1) (bH (ajb (dw d.1.1 (0,([],(0,(0,())))) d.1.2.2.2.1).2.1) fun e=>cond (gV 0 e.1) (bH (LZ d.1.1 d.1.2.1 d.1.2.2.1 d.1.2.2.2.1 d.1.2.2.2.2.1 d.1.2.2.2.2.2.1 6) fun f=>j g h f.1.1 f.1.2.1 f.1.2.2.2.1 f.1.2.2.2.2.1 f.1.2.2.2.2.2.1 f.1.2.2.1)<|bH (LZ d.1.1 d.1.2.1 d.1.2.2.1 d.1.2.2.2.1 d.1.2.2.2.2.1 d.1.2.2.2.2.2.1 7) fun f=>j g (di .i64 h 1) f.1.1 f.1.2.1 f.1.2.2.2.1 f.1.2.2.2.2.1 f.1.2.2.2.2.2.1 f.1.2.2.1) a7)<|bH (LZ d.1.1 d.1.2.1 d.1.2.2.1 d.1.2.2.2.1 d.1.2.2.2.2.1 d.1.2.2.2.2.2.1 7) fun e=>j g (di .i64 h 1) e.1.1 e.1.2.1 e.1.2.2.2.1 e.1.2.2.2.2.1 e.1.2.2.2.2.2.1 e.1.2.2.1)<|l g d.1.1 d.1.2.1 d.1.2.2.2.1 d.1.2.2.2.2.1 d.1.2.2.2.2.2.1 d.1.2.2.1) a7)<|l g d.1.1 d.1.2.1 d.1.2.2.2.1 d.1.2.2.2.2.1 d.1.2.2.2.2.2.1 d.1.2.2.1
def Aa (q:iY):Nat->Int->Int->(List gu)->bZ->Int->Int->Int->(List gJ)->Option (Ug.den⊕Un.den)
 |0,_,_,_,_,_,_,_,_=>a7
 |n+1,d,e,f,g,h,i,j,l=>KW q (Aa q n) (fun o p s u v x y=>a6 (.inl ((o,()),((),()),((p,s,u,v,x,()),y,())))) (a6 (.inr ((),((),()),()))) d e f g h i j l
def auk (q:iY) (n:Nat) (v:PX.den):=Aa q n v.1.1 v.1.2.1 v.2.2.1.1 v.2.2.1.2.1 v.2.2.1.2.2.1 v.2.2.1.2.2.2.1 v.2.2.1.2.2.2.2.1 v.2.2.2.1
noncomputable def ael (q:iY):dE:=fF ajC PX Ug Un (.exit 0) (auk q bM) 6
def Ec:SQ:=⟨us bN 143,c9,bE⟩
def vN:SQ:=⟨us [] 144,c9,bE⟩
def vO:SQ:=⟨us [] 144,c9,[]⟩
def vU (q:iY) {g:Type} (h:(List gu)->bZ->Int->Int->Int->(List gJ)->Option g) (i:Option g) (j:List gu) (l:bZ) (o p s:Int) (u:List gJ):Option g:=bH (Df j l u o p s 5) fun d=>bH (Aa q bM d.2.1 0 d.1.1 d.1.2.1 d.1.2.2.2.1 d.1.2.2.2.2.1 d.1.2.2.2.2.2.1 d.1.2.2.1) fun v=>dN v (fun e=>bH (pK e.2.2.1.1 e.2.2.1.2.1 e.2.2.2.1 e.2.2.1.2.2.1 e.2.2.1.2.2.2.1 e.2.2.1.2.2.2.2.1 e.1.1) fun f=>h f.1.1 f.1.2.1 f.1.2.2.2.1 f.1.2.2.2.2.1 f.1.2.2.2.2.2.1 f.1.2.2.1) (fun x=>i)
def mM (q:iY) (d:List gu) (e:bZ) (f g h:Int) (i:List gJ):Option (vN.den⊕vO.den):=vU q (fun j l o p s u=>a6 (.inl ((),((),()),((j,l,o,p,s,()),u,())))) (a6 (.inr ((),((),()),()))) d e f g h i
noncomputable def Kr (q:iY):dE:=fF xW Ec vN vO (.exit 999999) (fun v=>mM q v.2.2.1.1 v.2.2.1.2.1 v.2.2.1.2.2.1 v.2.2.1.2.2.2.1 v.2.2.1.2.2.2.2.1 v.2.2.2.1) 12
def EZ (q:iY) (d:(taF×pq)):Option Jc:=bH (mM q d.1.1 d.1.2.1 d.1.2.2.2.1 d.1.2.2.2.2.1 d.1.2.2.2.2.2.1 d.1.2.2.1) fun f=>dN f (fun e=>a6 ((e.2.2.1.1,(e.2.2.1.2.1,(e.2.2.2.1,(e.2.2.1.2.2.1,(e.2.2.1.2.2.2.1,(e.2.2.1.2.2.2.2.1,())))))),())) (fun g=>a7)
def asq (q:iY) (s:List gu) (u:bZ) (v:List gJ) (x y z:Int):Option Jc:=bH (asU s u v x y z) fun f=>cond (!f.2.1) (bH (uw f.1.1 f.1.2.1 f.1.2.2.1 f.1.2.2.2.1 f.1.2.2.2.2.1 f.1.2.2.2.2.2.1) fun e=>a6 ((e.1.1,(e.1.2.1,(e.1.2.2.1,(e.1.2.2.2.1,(e.1.2.2.2.2.1,(e.1.2.2.2.2.2.1,())))))),()))<|bH (SB f.1.1 f.1.2.1 f.1.2.2.1 f.1.2.2.2.1 f.1.2.2.2.2.1 f.1.2.2.2.2.2.1) fun e=>cond e.2.1 (bH (q.q186 e.1.1 e.1.2.1 e.1.2.2.1 e.1.2.2.2.1 e.1.2.2.2.2.1 e.1.2.2.2.2.2.1) fun d=>a6 ((d.1.1,(d.1.2.1,(d.1.2.2.1,(d.1.2.2.2.1,(d.1.2.2.2.2.1,(d.1.2.2.2.2.2.1,())))))),()))<|bH (nU e.1.1 e.1.2.1 e.1.2.2.1 e.1.2.2.2.1 e.1.2.2.2.2.1 e.1.2.2.2.2.2.1 [120]) fun d=>cond d.2.1 (cond (gV (di .i64 d.1.2.2.2.1 1) (bI d.1.2.1)) (cond (fD d.1.2.1 (di .i64 d.1.2.2.2.1 1)) (cond (bP (bY d.1.2.1 (di .i64 d.1.2.2.2.1 1)) 40) (cond (gV d.1.2.2.2.2.2.1 200) (cond (fD d.1.1 d.1.2.2.2.1) (bH (YJ (dw d.1.1 (0,([],(0,(0,())))) d.1.2.2.2.1).2.1) fun A=>cond A.1 (bH (Df d.1.1 d.1.2.1 d.1.2.2.1 d.1.2.2.2.1 d.1.2.2.2.2.1 d.1.2.2.2.2.2.1 16) fun j=>bH (LZ j.1.1 j.1.2.1 j.1.2.2.1 j.1.2.2.2.1 j.1.2.2.2.2.1 j.1.2.2.2.2.2.1 7) fun l=>bH (mX l.1.1 l.1.2.1 l.1.2.2.1 (di .i64 l.1.2.2.2.1 1) l.1.2.2.2.2.1 l.1.2.2.2.2.2.1 [41]) fun o=>bH (rU o.1.1 o.1.2.1 o.1.2.2.1 o.1.2.2.2.1 o.1.2.2.2.2.1 o.1.2.2.2.2.2.1) fun p=>bH (SB p.1.1 p.1.2.1 p.1.2.2.1 p.1.2.2.2.1 p.1.2.2.2.2.1 p.1.2.2.2.2.2.1) fun g=>cond g.2.1 (bH (q.q186 g.1.1 g.1.2.1 g.1.2.2.1 g.1.2.2.2.1 g.1.2.2.2.2.1 g.1.2.2.2.2.2.1) fun h=>bH (pK h.1.1 h.1.2.1 h.1.2.2.1 h.1.2.2.2.1 h.1.2.2.2.2.1 h.1.2.2.2.2.2.1 j.2.1) fun i=>a6 ((i.1.1,(i.1.2.1,(i.1.2.2.1,(i.1.2.2.2.1,(i.1.2.2.2.2.1,(i.1.2.2.2.2.2.1,())))))),()))<|bH (uw g.1.1 g.1.2.1 g.1.2.2.1 g.1.2.2.2.1 g.1.2.2.2.2.1 g.1.2.2.2.2.2.1) fun h=>bH (pK h.1.1 h.1.2.1 h.1.2.2.1 h.1.2.2.2.1 h.1.2.2.2.2.1 h.1.2.2.2.2.2.1 j.2.1) fun i=>a6 ((i.1.1,(i.1.2.1,(i.1.2.2.1,(i.1.2.2.2.1,(i.1.2.2.2.2.1,(i.1.2.2.2.2.2.1,())))))),()))<|EZ q d) a7)<|EZ q d)<|EZ q d) a7)<|EZ q d)<|EZ q d
noncomputable def Ie (q:iY):Env:=gB prog tt [(32,XK),(189,awM)] [(155,16,ajC),(155,800014,xW)] [(155,16,ael q),(155,800014,Kr q)] [] [(49,Pv),(50,Hr),(53,amo),(54,Px),(87,aCD),(89,Py),(119,aie),(120,aws),(122,UV),(186,amb q),(187,UW),(188,aii)]
def ae5 (q:iY) {d:Type} (a:PX.den->Option d) (b:Ug.den->Option d) (c:Un.den->Option d) (v:PX.den):Option d:=KW q (fun e f g h i j l o=>a ((e,f,()),((),()),((g,h,i,j,l,()),o,()))) (br b) (c ((),((),()),())) v.1.1 v.1.2.1 v.2.2.1.1 v.2.2.1.2.1 v.2.2.1.2.2.1 v.2.2.1.2.2.2.1 v.2.2.1.2.2.2.2.1 v.2.2.2.1
theorem auZ (q:iY):dQ (Ie q) 155 aix (ael q):=lu (ae5 q) (h2:=by intros;simp only[ae5,br,KW,cO,cZ,bG,bW,dh])
theorem UQ (q:iY) {R:Type} (d:Nat) (K:Ex->St->Option R) (e:List gu) (f:bZ) (g h i:Int) (j:List gJ):
  iter (a6 xW) (Du (Ap (Ie q) (d+12) 155 xO)) 1 (mY Ec ((),((),()),((e,f,g,h,i,()),j,()))) K=
   vU q (fun l o e2 p s u=>K (.exit 999999) (mY vN ((),((),()),((l,o,e2,p,s,()),u,())))) (K .ret (mY vO ((),((),()),()))) e f g h i j:=by kernel_rfl
theorem YW (q:iY) {R:Type} (d:Nat) (K:Ex->St->Option R) (e:List gu) (f:bZ) (g h i:Int) (j:List gJ):
  iter (a6 xW) (Du (Ap (Ie q) (d+12) 155 xO)) 1 (mY Ec ((),((),()),((e,f,g,h,i,()),j,()))) K=bH (mM q e f g h i j) fun o=>dN o (fun a=>K (.exit 999999) (mY vN a)) fun b=>K .ret (mY vO b):=by
  rw[UQ];simp only[mM,vU,cO,cZ,bG,bW,dh]
  try simp only[dN]
theorem Zi (q:iY):zD (Ie q) 155 xO (Kr q):=amK (by kernel_rfl) fun R d K v o h=>⟨1,(YW q d K (v.2.2.1.1) (v.2.2.1.2.1) (v.2.2.1.2.2.1) (v.2.2.1.2.2.2.1) (v.2.2.1.2.2.2.2.1) (v.2.2.2.1)).trans (congrArg (fun o=>bH o _) h)⟩
theorem aD7:jJ afQ=[aix]:=by kernel_rfl
theorem aDn (q:iY):MC (Ie q) 155 afQ=[xO]:=by kernel_rfl
theorem aEr (q:iY):dM (Ie q) 155 afQ:=DX afQ (fun x _ d=>absurd (show false=true from d) (by decide)) (by rw[aD7];exact(aD (fM (auZ q)) aN)) (JM (by rw[aDn];exact(aD (fC (by kernel_rfl) (Zi q)) aN)))
theorem am5 (q:iY) (H:H52 q):eu (Ie q):=eB (aD EG (aD apd aN)) [155] (aD ⟨Tryz.f155,afQ,by kernel_rfl,by kernel_rfl,aEr q⟩ aN) (hx:=(aD qc (aD kJ (aD Lp (aD qf (aD aft (aD xy (aD NI (aD Xu (aD wH (aD H.2.2.2.2.2.2.1 (aD Gp (aD XE aN)))))))))))))
def ast (q:iY) (g:List gu) (h:bZ) (i:List gJ) (j l o:Int):Option Jc:=bH (rU g h i j l o) fun f=>bH (PD f.1.1 f.1.2.1 f.1.2.2.1 f.1.2.2.2.1 f.1.2.2.2.2.1 f.1.2.2.2.2.2.1) fun d=>cond d.2.1 (bH (q.q52 d.1.1 d.1.2.1 d.1.2.2.1 d.1.2.2.2.1 d.1.2.2.2.2.1 d.1.2.2.2.2.2.1) fun e=>a6 ((e.1.1,(e.1.2.1,(e.1.2.2.1,(e.1.2.2.2.1,(e.1.2.2.2.2.1,(e.1.2.2.2.2.2.1,())))))),()))<|bH (uw d.1.1 d.1.2.1 d.1.2.2.1 d.1.2.2.2.1 d.1.2.2.2.2.1 d.1.2.2.2.2.2.1) fun e=>a6 ((e.1.1,(e.1.2.1,(e.1.2.2.1,(e.1.2.2.2.1,(e.1.2.2.2.2.1,(e.1.2.2.2.2.2.1,())))))),())
noncomputable def aDv (q:iY):Env:=gB prog tt [] [] [] [] [(51,XL),(52,aik q),(89,Py),(122,UV)]
theorem anm (q:iY) (H:H52 q):eu (aDv q):=eB aN [] aN (hx:=(aD EH (aD H.1 (aD xy (aD wH aN)))))
def asu (q:iY) (g:List gu) (h:bZ) (i:List gJ) (j l o:Int):Option Jc:=bH (mX g h i j l o [100]) fun d=>bH (q.q230 d.1.1 d.1.2.1 d.1.2.2.1 d.1.2.2.2.1 d.1.2.2.2.2.1 d.1.2.2.2.2.2.1) fun e=>bH (mX e.1.1 e.1.2.1 e.1.2.2.1 e.1.2.2.2.1 e.1.2.2.2.2.1 e.1.2.2.2.2.2.1 [103]) fun f=>a6 ((f.1.1,(f.1.2.1,(f.1.2.2.1,(f.1.2.2.2.1,(f.1.2.2.2.2.1,(f.1.2.2.2.2.2.1,())))))),())
noncomputable def aDw (q:iY):Env:=gB prog tt [] [] [] [] [(187,UW),(230,ack q)]
theorem ann (q:iY) (H:H52 q):eu (aDw q):=eB aN [] aN (hx:=(aD Gp (aD H.2.2.2.2.1 aN)))
noncomputable def ap7:Code:=(f186.body).getD .skip
noncomputable def aqz:Code:=cA (cA (cB (cA (cB (cB (ap7))))))
noncomputable def aiA:Code:=cA (cA (cA (cB (cB (cB (cA (cB (cB (cB (cB (cB (cA (cB (cA (cB (cB (cB (cB (cB (ap7))))))))))))))))))))
noncomputable def aiB:Code:=cA (cA (cA (cB (cB (cB (cB (cB (cB (ap7)))))))))
def atB:eQ:=⟨[0,2,3,4,100003],[],[0,3],[],[],[]⟩
def ajF:eQ:=⟨[0,5,100020],[],[0,5],[],[],[]⟩
def ajG:eQ:=⟨[0,5,100036],[],[0,5],[],[],[]⟩
def ZM:SQ:=⟨us [co,.u,cL,bO,bO] 103,c9,bE⟩
def aaw:SQ:=⟨us eD 104,c9,bE⟩
def aa9:SQ:=⟨us [] 108,c9,[]⟩
def abU (q:iY) {e:Type} (p:Int->Int->Int->(List gu)->bZ->Int->Int->Int->(List gJ)->Option e) (u:Int->(List gu)->bZ->Int->Int->Int->(List gJ)->Option e) (v:Option e) (f s d:Int) (g:List gu) (h:bZ) (i j l:Int) (o:List gJ):Option e:=cond (gV d 6) (cond (fD [123,40,105,119,114,99] d) (cond (bP (bY [123,40,105,119,114,99] d) f) (p f (di .i64 9 d) (di .i64 d 1) g h i j l o)<|p f s (di .i64 d 1) g h i j l o) a7)<|u s g h i j l o
def vG (q:iY):Nat->Int->Int->Int->(List gu)->bZ->Int->Int->Int->(List gJ)->Option (aaw.den⊕aa9.den)
 |0,_,_,_,_,_,_,_,_,_=>a7
 |n+1,d,e,f,g,h,i,j,l,o=>abU q (vG q n) (fun p s u v x y z=>a6 (.inl ((p,()),((),()),((s,u,v,x,y,()),z,())))) (a6 (.inr ((),((),()),()))) d e f g h i j l o
def azy (q:iY) (n:Nat) (v:ZM.den):=vG q n v.1.1 v.1.2.1 v.1.2.2.1 v.2.2.1.1 v.2.2.1.2.1 v.2.2.1.2.2.1 v.2.2.1.2.2.2.1 v.2.2.1.2.2.2.2.1 v.2.2.2.1
noncomputable def akd (q:iY):dE:=fF atB ZM aaw aa9 (.exit 0) (azy q bM) 6
def P6:SQ:=⟨db,c9,bE⟩
def KC:SQ:=⟨db,c9,bE⟩
def KF:SQ:=⟨us [] 108,c9,[]⟩
def KZ (q:iY) {f:Type} (h i:Int->(List gu)->bZ->Int->Int->Int->(List gJ)->Option f) (v:Option f) (g:Int) (j:List gu) (l:bZ) (o p s:Int) (u:List gJ):Option f:=bH (Wp j l u o p s) fun d=>cond d.2.1 (bH (adq d.1.1 d.1.2.1 d.1.2.2.1 d.1.2.2.2.1 d.1.2.2.2.2.1 d.1.2.2.2.2.2.1) fun e=>h g e.1.1 e.1.2.1 e.1.2.2.2.1 e.1.2.2.2.2.1 e.1.2.2.2.2.2.1 e.1.2.2.1)<|i g d.1.1 d.1.2.1 d.1.2.2.2.1 d.1.2.2.2.2.1 d.1.2.2.2.2.2.1 d.1.2.2.1
def jg (q:iY):Nat->Int->(List gu)->bZ->Int->Int->Int->(List gJ)->Option (KC.den⊕KF.den)
 |0,_,_,_,_,_,_,_=>a7
 |n+1,d,e,f,g,h,i,j=>KZ q (jg q n) (fun l o p s u v x=>a6 (.inl ((l,()),((),()),((o,p,s,u,v,()),x,())))) (a6 (.inr ((),((),()),()))) d e f g h i j
def auo (q:iY) (n:Nat) (v:P6.den):=bs (jg q n) v
noncomputable def aep (q:iY):dE:=fF ajG P6 KC KF (.exit 5) (auo q bM) 12
def P5:SQ:=⟨db,c9,bE⟩
def Uj:SQ:=⟨db,c9,bE⟩
def Us:SQ:=⟨us [] 108,c9,[]⟩
def KY (q:iY) {h:Type} (j l:Int->(List gu)->bZ->Int->Int->Int->(List gJ)->Option h) (y:Option h) (i:Int) (o:List gu) (p:bZ) (s u v:Int) (x:List gJ):Option h:=bH (nU o p x s u v [101]) fun d=>cond d.2.1 (bH (q.q230 d.1.1 d.1.2.1 d.1.2.2.1 (di .i64 d.1.2.2.2.1 1) d.1.2.2.2.2.1 d.1.2.2.2.2.2.1) fun e=>bH (mX e.1.1 e.1.2.1 e.1.2.2.1 e.1.2.2.2.1 e.1.2.2.2.2.1 e.1.2.2.2.2.2.1 [116]) fun f=>bH (q.q230 f.1.1 f.1.2.1 f.1.2.2.1 f.1.2.2.2.1 f.1.2.2.2.2.1 f.1.2.2.2.2.2.1) fun g=>j i g.1.1 g.1.2.1 g.1.2.2.2.1 g.1.2.2.2.2.1 g.1.2.2.2.2.2.1 g.1.2.2.1)<|l i d.1.1 d.1.2.1 d.1.2.2.2.1 d.1.2.2.2.2.1 d.1.2.2.2.2.2.1 d.1.2.2.1
def Ad (q:iY):Nat->Int->(List gu)->bZ->Int->Int->Int->(List gJ)->Option (Uj.den⊕Us.den)
 |0,_,_,_,_,_,_,_=>a7
 |n+1,d,e,f,g,h,i,j=>KY q (Ad q n) (fun l o p s u v x=>a6 (.inl ((l,()),((),()),((o,p,s,u,v,()),x,())))) (a6 (.inr ((),((),()),()))) d e f g h i j
def aun (q:iY) (n:Nat) (v:P5.den):=bs (Ad q n) v
noncomputable def aeo (q:iY):dE:=fF ajF P5 Uj Us (.exit 3) (aun q bM) 18
def nO (f:KC.den⊕KF.den):Option Jc:=dN f (fun d=>bH (pK d.2.2.1.1 d.2.2.1.2.1 d.2.2.2.1 d.2.2.1.2.2.1 d.2.2.1.2.2.2.1 d.2.2.1.2.2.2.2.1 d.1.1) fun e=>a6 ((e.1.1,(e.1.2.1,(e.1.2.2.1,(e.1.2.2.2.1,(e.1.2.2.2.2.1,(e.1.2.2.2.2.2.1,())))))),())) (fun g=>a7)
def zO (q:iY) (u:List gu) (p:bZ) (v:List gJ) (s x y:Int):Option Jc:=cond (fD p s) (bH (vG q bM (bY p s) 9 0 u p s x y v) fun z=>dN z (fun g=>bH (Df g.2.2.1.1 g.2.2.1.2.1 g.2.2.2.1 g.2.2.1.2.2.1 g.2.2.1.2.2.2.1 g.2.2.1.2.2.2.2.1 g.1.1) fun d=>cond (bP g.1.1 9) (bH (q.q230 d.1.1 d.1.2.1 d.1.2.2.1 (di .i64 d.1.2.2.2.1 1) d.1.2.2.2.2.1 d.1.2.2.2.2.2.1) fun e=>bH (mX e.1.1 e.1.2.1 e.1.2.2.1 e.1.2.2.2.1 e.1.2.2.2.2.1 e.1.2.2.2.2.2.1 [125]) fun f=>bH (jg q bM d.2.1 f.1.1 f.1.2.1 f.1.2.2.2.1 f.1.2.2.2.2.1 f.1.2.2.2.2.2.1 f.1.2.2.1) fun j=>nO j)<|cond (bP g.1.1 10) (bH (q.q230 d.1.1 d.1.2.1 d.1.2.2.1 (di .i64 d.1.2.2.2.1 1) d.1.2.2.2.2.1 d.1.2.2.2.2.2.1) fun e=>bH (mX e.1.1 e.1.2.1 e.1.2.2.1 e.1.2.2.2.1 e.1.2.2.2.2.1 e.1.2.2.2.2.2.1 [41]) fun f=>bH (jg q bM d.2.1 f.1.1 f.1.2.1 f.1.2.2.2.1 f.1.2.2.2.2.1 f.1.2.2.2.2.2.1 f.1.2.2.1) fun j=>nO j)<|cond (bP g.1.1 11) (bH (q.q230 d.1.1 d.1.2.1 d.1.2.2.1 (di .i64 d.1.2.2.2.1 1) d.1.2.2.2.2.1 d.1.2.2.2.2.2.1) fun e=>bH (mX e.1.1 e.1.2.1 e.1.2.2.1 e.1.2.2.2.1 e.1.2.2.2.2.1 e.1.2.2.2.2.2.1 [116]) fun f=>bH (q.q230 f.1.1 f.1.2.1 f.1.2.2.1 f.1.2.2.2.1 f.1.2.2.2.2.1 f.1.2.2.2.2.2.1) fun j=>bH (Ad q bM d.2.1 j.1.1 j.1.2.1 j.1.2.2.2.1 j.1.2.2.2.2.1 j.1.2.2.2.2.2.1 j.1.2.2.1) fun A=>dN A (fun l=>bH (nU l.2.2.1.1 l.2.2.1.2.1 l.2.2.2.1 l.2.2.1.2.2.1 l.2.2.1.2.2.2.1 l.2.2.1.2.2.2.2.1 [108]) fun h=>cond h.2.1 (bH (q.q230 h.1.1 h.1.2.1 h.1.2.2.1 (di .i64 h.1.2.2.2.1 1) h.1.2.2.2.2.1 h.1.2.2.2.2.2.1) fun i=>bH (mX i.1.1 i.1.2.1 i.1.2.2.1 i.1.2.2.2.1 i.1.2.2.2.2.1 i.1.2.2.2.2.2.1 [102]) fun o=>bH (jg q bM l.1.1 o.1.1 o.1.2.1 o.1.2.2.2.1 o.1.2.2.2.2.1 o.1.2.2.2.2.2.1 o.1.2.2.1) fun B=>nO B)<|bH (mX h.1.1 h.1.2.1 h.1.2.2.1 h.1.2.2.2.1 h.1.2.2.2.2.1 h.1.2.2.2.2.2.1 [102]) fun i=>bH (jg q bM l.1.1 i.1.1 i.1.2.1 i.1.2.2.2.1 i.1.2.2.2.2.1 i.1.2.2.2.2.2.1 i.1.2.2.1) fun o=>nO o) (fun b7=>a7))<|cond (bP g.1.1 12) (bH (q.q230 d.1.1 d.1.2.1 d.1.2.2.1 (di .i64 d.1.2.2.2.1 1) d.1.2.2.2.2.1 d.1.2.2.2.2.2.1) fun e=>bH (q.q231 e.1.1 e.1.2.1 e.1.2.2.1 e.1.2.2.2.1 e.1.2.2.2.2.1 e.1.2.2.2.2.2.1) fun f=>bH (jg q bM d.2.1 f.1.1 f.1.2.1 f.1.2.2.2.1 f.1.2.2.2.2.1 f.1.2.2.2.2.2.1 f.1.2.2.1) fun j=>nO j)<|cond (bP g.1.1 13) (bH (q.q232 d.1.1 d.1.2.1 d.1.2.2.1 (di .i64 d.1.2.2.2.1 1) d.1.2.2.2.2.1 d.1.2.2.2.2.2.1) fun e=>bH (jg q bM d.2.1 e.1.1 e.1.2.1 e.1.2.2.2.1 e.1.2.2.2.2.1 e.1.2.2.2.2.2.1 e.1.2.2.1) fun f=>nO f)<|cond (bP g.1.1 14) (bH (q.q233 d.1.1 d.1.2.1 d.1.2.2.1 (di .i64 d.1.2.2.2.1 1) d.1.2.2.2.2.1 d.1.2.2.2.2.2.1) fun e=>bH (jg q bM d.2.1 e.1.1 e.1.2.1 e.1.2.2.2.1 e.1.2.2.2.2.1 e.1.2.2.2.2.2.1 e.1.2.2.1) fun f=>nO f)<|bH (jg q bM d.2.1 d.1.1 d.1.2.1 (di .i64 d.1.2.2.2.1 1) d.1.2.2.2.2.1 d.1.2.2.2.2.2.1 d.1.2.2.1) fun e=>nO e) (fun D=>a7)) a7
noncomputable def RZ (q:iY):Env:=gB prog tt [] [(186,3,atB),(186,20,ajF),(186,36,ajG)] [(186,3,akd q),(186,36,aep q),(186,20,aeo q)] [] [(49,Pv),(50,Hr),(54,Px),(119,aie),(187,UW),(188,aii),(230,ack q),(231,acl q),(232,amd q),(233,ame q)]
def alC (q:iY) {d:Type} (a:ZM.den->Option d) (b:aaw.den->Option d) (c:aa9.den->Option d) (v:ZM.den):Option d:=abU q (fun e f g h i j l o p=>a ((e,f,g,()),((),()),((h,i,j,l,o,()),p,()))) (br b) (c ((),((),()),())) v.1.1 v.1.2.1 v.1.2.2.1 v.2.2.1.1 v.2.2.1.2.1 v.2.2.1.2.2.1 v.2.2.1.2.2.2.1 v.2.2.1.2.2.2.2.1 v.2.2.2.1
theorem aAn (q:iY):dQ (RZ q) 186 aqz (akd q):=lu (alC q) (h2:=by intros;simp only[alC,br,abU,cO,cZ,bG,bW,dh])
def ae9 (q:iY) {d:Type} (a:P6.den->Option d) (b:KC.den->Option d) (c:KF.den->Option d) (v:P6.den):Option d:=bs (KZ q (br a) (br b) (c ((),((),()),()))) v
theorem au3 (q:iY):dQ (RZ q) 186 aiB (aep q):=lu (ae9 q) (h2:=by intros;simp only[ae9,br,bs,KZ,cO,cZ,bG,bW,dh])
def ae8 (q:iY) {d:Type} (a:P5.den->Option d) (b:Uj.den->Option d) (c:Us.den->Option d) (v:P5.den):Option d:=bs (KY q (br a) (br b) (c ((),((),()),()))) v
theorem au2 (q:iY):dQ (RZ q) 186 aiA (aeo q):=lu (ae8 q) (h2:=by intros;simp only[ae8,br,bs,KY,cO,cZ,bG,bW,dh])
theorem aEx (q:iY):dM (RZ q) 186 ap7:=nV [aqz,aiA,aiB] (aD (fM (aAn q)) (aD (fM (au2 q)) (aD (fM (au3 q)) aN)))
theorem anc (q:iY) (H:H52 q):eu (RZ q):=eB aN [186] (aD ⟨f186,ap7,by kernel_rfl,by kernel_rfl,aEx q⟩ aN) (hx:=(aD qc (aD kJ (aD qf (aD NI (aD Gp (aD XE (aD H.2.2.2.2.1 (aD H.2.2.2.2.2.1 (aD H.2.2.2.2.2.2.2.1 (aD H.2.2.2.2.2.2.2.2 aN)))))))))))
noncomputable def aDh:Code:=(f232.body).getD .skip
noncomputable def aqH:Code:=cA (cA (cA (cB (cA (cB (cB (cB (cB (cA (cB (aDh)))))))))))
def atK:eQ:=⟨[0,100009],[],[0],[],[],[]⟩
def ZV:SQ:=⟨us bN 112,c9,bE⟩
def aaE:SQ:=⟨us bN 112,c9,bE⟩
def abj:SQ:=⟨us [] 113,c9,[]⟩
def QP (q:iY) {g:Type} (p o:(List gu)->bZ->Int->Int->Int->(List gJ)->Option g) (s:Option g) (d:List gu) (h:bZ) (e i j:Int) (l:List gJ):Option g:=cond (gV e (bI d)) (cond (fD d e) (cond (bP (dw d (0,([],(0,(0,())))) e).1 6) (bH (LZ d h l e i j 7) fun f=>p f.1.1 f.1.2.1 f.1.2.2.2.1 f.1.2.2.2.2.1 f.1.2.2.2.2.2.1 f.1.2.2.1)<|o d h e i j l) a7)<|o d h e i j l
def FM (q:iY):Nat->(List gu)->bZ->Int->Int->Int->(List gJ)->Option (aaE.den⊕abj.den)
 |0,_,_,_,_,_,_=>a7
 |n+1,d,e,f,g,h,i=>QP q (FM q n) (fun j l o p s u=>a6 (.inl ((),((),()),((j,l,o,p,s,()),u,())))) (a6 (.inr ((),((),()),()))) d e f g h i
def azG (q:iY) (n:Nat) (v:ZV.den):=FM q n v.2.2.1.1 v.2.2.1.2.1 v.2.2.1.2.2.1 v.2.2.1.2.2.2.1 v.2.2.1.2.2.2.2.1 v.2.2.2.1
noncomputable def akl (q:iY):dE:=fF atK ZV aaE abj (.exit 0) (azG q bM) 6
def JD (l:Jc) (q:iY):Option Jc:=bH (nU l.1.1 l.1.2.1 l.1.2.2.1 l.1.2.2.2.1 l.1.2.2.2.2.1 l.1.2.2.2.2.2.1 [59]) fun g=>cond g.2.1 (bH (rU g.1.1 g.1.2.1 g.1.2.2.1 (di .i64 g.1.2.2.2.1 1) g.1.2.2.2.2.1 g.1.2.2.2.2.2.1) fun h=>bH (q.q231 h.1.1 h.1.2.1 h.1.2.2.1 h.1.2.2.2.1 h.1.2.2.2.2.1 h.1.2.2.2.2.2.1) fun d=>a6 ((d.1.1,(d.1.2.1,(d.1.2.2.1,(d.1.2.2.2.1,(d.1.2.2.2.2.1,(d.1.2.2.2.2.2.1,())))))),()))<|bH (rU g.1.1 g.1.2.1 g.1.2.2.1 g.1.2.2.2.1 g.1.2.2.2.2.1 g.1.2.2.2.2.2.1) fun h=>bH (nU h.1.1 h.1.2.1 h.1.2.2.1 h.1.2.2.2.1 h.1.2.2.2.2.1 h.1.2.2.2.2.2.1 [107]) fun d=>cond d.2.1 (bH (FM q bM d.1.1 d.1.2.1 (di .i64 d.1.2.2.2.1 1) d.1.2.2.2.2.1 d.1.2.2.2.2.2.1 d.1.2.2.1) fun j=>dN j (fun o=>bH (nU o.2.2.1.1 o.2.2.1.2.1 o.2.2.2.1 o.2.2.1.2.2.1 o.2.2.1.2.2.2.1 o.2.2.1.2.2.2.2.1 [59]) fun i=>cond i.2.1 (bH (rU i.1.1 i.1.2.1 i.1.2.2.1 (di .i64 i.1.2.2.2.1 1) i.1.2.2.2.2.1 i.1.2.2.2.2.2.1) fun e=>bH (q.q231 e.1.1 e.1.2.1 e.1.2.2.1 e.1.2.2.2.1 e.1.2.2.2.2.1 e.1.2.2.2.2.2.1) fun f=>a6 ((f.1.1,(f.1.2.1,(f.1.2.2.1,(f.1.2.2.2.1,(f.1.2.2.2.2.1,(f.1.2.2.2.2.2.1,())))))),()))<|bH (rU i.1.1 i.1.2.1 i.1.2.2.1 i.1.2.2.2.1 i.1.2.2.2.2.1 i.1.2.2.2.2.2.1) fun e=>cond (bP e.2.1 0) (bH (uw e.1.1 e.1.2.1 e.1.2.2.1 e.1.2.2.2.1 e.1.2.2.2.2.1 e.1.2.2.2.2.2.1) fun f=>bH (q.q231 f.1.1 f.1.2.1 f.1.2.2.1 f.1.2.2.2.1 f.1.2.2.2.2.1 f.1.2.2.2.2.2.1) fun p=>a6 ((p.1.1,(p.1.2.1,(p.1.2.2.1,(p.1.2.2.2.1,(p.1.2.2.2.2.1,(p.1.2.2.2.2.2.1,())))))),()))<|bH (q.q231 e.1.1 e.1.2.1 e.1.2.2.1 e.1.2.2.2.1 e.1.2.2.2.2.1 e.1.2.2.2.2.2.1) fun f=>a6 ((f.1.1,(f.1.2.1,(f.1.2.2.1,(f.1.2.2.2.1,(f.1.2.2.2.2.1,(f.1.2.2.2.2.2.1,())))))),())) (fun s=>a7))<|bH (q.q231 d.1.1 d.1.2.1 d.1.2.2.1 d.1.2.2.2.1 d.1.2.2.2.2.1 d.1.2.2.2.2.2.1) fun j=>a6 ((j.1.1,(j.1.2.1,(j.1.2.2.1,(j.1.2.2.2.1,(j.1.2.2.2.2.1,(j.1.2.2.2.2.2.1,())))))),())
def asv (q:iY) (d:List gu) (g:bZ) (h:List gJ) (e i j:Int):Option Jc:=cond (gV e (bI d)) (cond (fD d e) (cond (bP (dw d (0,([],(0,(0,())))) e).1 6) (cond (fD d e) (bH (YJ (dw d (0,([],(0,(0,())))) e).2.1) fun f=>cond f.1 (bH (LZ d g h e i j 7) fun l=>JD l q)<|bH (uw d g h e i j) fun l=>JD l q) a7)<|bH (uw d g h e i j) fun f=>JD f q) a7)<|bH (uw d g h e i j) fun f=>JD f q
noncomputable def agm (q:iY):Env:=gB prog tt [(32,XK)] [(232,9,atK)] [(232,9,akl q)] [] [(50,Hr),(53,amo),(89,Py),(122,UV),(231,acl q)]
def alK (q:iY) {d:Type} (a:ZV.den->Option d) (b:aaE.den->Option d) (c:abj.den->Option d) (v:ZV.den):Option d:=QP q (fun e f g h i j=>a ((),((),()),((e,f,g,h,i,()),j,()))) (fun l o p s u x=>b ((),((),()),((l,o,p,s,u,()),x,()))) (c ((),((),()),())) v.2.2.1.1 v.2.2.1.2.1 v.2.2.1.2.2.1 v.2.2.1.2.2.2.1 v.2.2.1.2.2.2.2.1 v.2.2.2.1
theorem aAv (q:iY):dQ (agm q) 232 aqH (akl q):=lu (alK q) (h2:=by intros;simp only[alK,QP,cO,cZ,bG,bW,dh])
theorem aEE (q:iY):dM (agm q) 232 aDh:=nV [aqH] (aD (fM (aAv q)) aN)
theorem ano (q:iY) (H:H52 q):eu (agm q):=eB (aD EG aN) [232] (aD ⟨f232,aDh,by kernel_rfl,by kernel_rfl,aEE q⟩ aN) (hx:=(aD kJ (aD Lp (aD xy (aD wH (aD H.2.2.2.2.2.1 aN))))))
noncomputable def axX:Code:=(f233.body).getD .skip
noncomputable def aiD:Code:=cA (cA (cA (cB (cB (cB (cA (cB (cA (cA (cA (cB (cB (cB (cB (cB (axX))))))))))))))))
noncomputable def aqI:Code:=cA (cA (cA (cB (cB (cB (cB (cB (axX))))))))
def ajI:eQ:=⟨[0,3,100010],[],[0,3],[],[],[]⟩
def atL:eQ:=⟨[0,2,100005],[],[0],[],[],[]⟩
def P8:SQ:=⟨us eD 96,c9,bE⟩
def Ul:SQ:=⟨us eD 96,c9,bE⟩
def Uu:SQ:=⟨us [] 100,c9,[]⟩
def Ld (q:iY) {f:Type} (h i:Int->(List gu)->bZ->Int->Int->Int->(List gJ)->Option f) (v:Option f) (g:Int) (j:List gu) (l:bZ) (o p s:Int) (u:List gJ):Option f:=bH (nU j l u o p s [124]) fun d=>cond d.2.1 (bH (wX d.1.1 d.1.2.1 d.1.2.2.1 (di .i64 d.1.2.2.2.1 1) d.1.2.2.2.2.1 d.1.2.2.2.2.2.1) fun e=>h g e.1.1 e.1.2.1 e.1.2.2.2.1 e.1.2.2.2.2.1 e.1.2.2.2.2.2.1 e.1.2.2.1)<|i g d.1.1 d.1.2.1 d.1.2.2.2.1 d.1.2.2.2.2.1 d.1.2.2.2.2.2.1 d.1.2.2.1
def uB (q:iY):Nat->Int->(List gu)->bZ->Int->Int->Int->(List gJ)->Option (Ul.den⊕Uu.den)
 |0,_,_,_,_,_,_,_=>a7
 |n+1,d,e,f,g,h,i,j=>Ld q (uB q n) (fun l o p s u v x=>a6 (.inl ((l,()),((),()),((o,p,s,u,v,()),x,())))) (a6 (.inr ((),((),()),()))) d e f g h i j
def auq (q:iY) (n:Nat) (v:P8.den):=bs (uB q n) v
noncomputable def aer (q:iY):dE:=fF ajI P8 Ul Uu (.exit 2) (auq q bM) 6
def ZW:SQ:=⟨us [co,.u,ca] 97,c9,bE⟩
def aaF:SQ:=⟨us bN 99,c9,bE⟩
def abk:SQ:=⟨us [] 100,c9,[]⟩
def sH {s:Type} (q:iY) (u:(taF×CQ)) (i:Jc) (p:Bool->(List gu)->bZ->Int->Int->Int->(List gJ)->Option s) (v:Option s):Option s:=bH (uB q bM u.2.1 i.1.1 i.1.2.1 i.1.2.2.2.1 i.1.2.2.2.2.1 i.1.2.2.2.2.2.1 i.1.2.2.1) fun x=>dN x (fun h=>bH (mX h.2.2.1.1 h.2.2.1.2.1 h.2.2.2.1 h.2.2.1.2.2.1 h.2.2.1.2.2.2.1 h.2.2.1.2.2.2.2.1 [41]) fun j=>bH (rU j.1.1 j.1.2.1 j.1.2.2.1 j.1.2.2.2.1 j.1.2.2.2.2.1 j.1.2.2.2.2.2.1) fun l=>bH (PD l.1.1 l.1.2.1 l.1.2.2.1 l.1.2.2.2.1 l.1.2.2.2.2.1 l.1.2.2.2.2.2.1) fun f=>cond f.2.1 (bH (q.q52 f.1.1 f.1.2.1 f.1.2.2.1 f.1.2.2.2.1 f.1.2.2.2.2.1 f.1.2.2.2.2.2.1) fun g=>bH (pK g.1.1 g.1.2.1 g.1.2.2.1 g.1.2.2.2.1 g.1.2.2.2.2.1 g.1.2.2.2.2.2.1 h.1.1) fun d=>bH (nU d.1.1 d.1.2.1 d.1.2.2.1 d.1.2.2.2.1 d.1.2.2.2.2.1 d.1.2.2.2.2.2.1 [121]) fun e=>cond e.2.1 (bH (rU e.1.1 e.1.2.1 e.1.2.2.1 (di .i64 e.1.2.2.2.1 1) e.1.2.2.2.2.1 e.1.2.2.2.2.2.1) fun o=>p e.2.1 o.1.1 o.1.2.1 o.1.2.2.2.1 o.1.2.2.2.2.1 o.1.2.2.2.2.2.1 o.1.2.2.1)<|p e.2.1 e.1.1 e.1.2.1 e.1.2.2.2.1 e.1.2.2.2.2.1 e.1.2.2.2.2.2.1 e.1.2.2.1)<|bH (pK f.1.1 f.1.2.1 f.1.2.2.1 f.1.2.2.2.1 f.1.2.2.2.2.1 f.1.2.2.2.2.2.1 h.1.1) fun g=>bH (nU g.1.1 g.1.2.1 g.1.2.2.1 g.1.2.2.2.1 g.1.2.2.2.2.1 g.1.2.2.2.2.2.1 [121]) fun d=>cond d.2.1 (bH (rU d.1.1 d.1.2.1 d.1.2.2.1 (di .i64 d.1.2.2.2.1 1) d.1.2.2.2.2.1 d.1.2.2.2.2.2.1) fun e=>p d.2.1 e.1.1 e.1.2.1 e.1.2.2.2.1 e.1.2.2.2.2.1 e.1.2.2.2.2.2.1 e.1.2.2.1)<|p d.2.1 d.1.1 d.1.2.1 d.1.2.2.2.1 d.1.2.2.2.2.1 d.1.2.2.2.2.2.1 d.1.2.2.1) (fun y=>v)
def Lh (q:iY) {h:Type} (i:Bool->(List gu)->bZ->Int->Int->Int->(List gJ)->Option h) (j:(List gu)->bZ->Int->Int->Int->(List gJ)->Option h) (l:Option h) (z:Bool) (p:List gu) (s:bZ) (u v x:Int) (y:List gJ):Option h:=cond z (bH (nU p s y u v x [40]) fun d=>cond d.2.1 (bH (Df d.1.1 d.1.2.1 d.1.2.2.1 d.1.2.2.2.1 d.1.2.2.2.2.1 d.1.2.2.2.2.2.1 15) fun e=>bH (nU e.1.1 e.1.2.1 e.1.2.2.1 e.1.2.2.2.1 e.1.2.2.2.2.1 e.1.2.2.2.2.2.1 [40]) fun f=>cond f.2.1 (bH (wX f.1.1 f.1.2.1 f.1.2.2.1 (di .i64 f.1.2.2.2.1 1) f.1.2.2.2.2.1 f.1.2.2.2.2.2.1) fun g=>sH q e g i l)<|bH (wX f.1.1 f.1.2.1 f.1.2.2.1 f.1.2.2.2.1 f.1.2.2.2.2.1 f.1.2.2.2.2.2.1) fun g=>sH q e g i l)<|cond (gV d.1.2.2.2.1 (bI d.1.1)) (cond (fD d.1.1 d.1.2.2.2.1) (cond (bP (dw d.1.1 (0,([],(0,(0,())))) d.1.2.2.2.1).1 6) (bH (nU d.1.1 d.1.2.1 d.1.2.2.1 d.1.2.2.2.1 d.1.2.2.2.2.1 d.1.2.2.2.2.2.1 [122]) fun e=>cond (!e.2.1) (bH (Df e.1.1 e.1.2.1 e.1.2.2.1 e.1.2.2.2.1 e.1.2.2.2.2.1 e.1.2.2.2.2.2.1 15) fun f=>bH (nU f.1.1 f.1.2.1 f.1.2.2.1 f.1.2.2.2.1 f.1.2.2.2.2.1 f.1.2.2.2.2.2.1 [40]) fun g=>cond g.2.1 (bH (wX g.1.1 g.1.2.1 g.1.2.2.1 (di .i64 g.1.2.2.2.1 1) g.1.2.2.2.2.1 g.1.2.2.2.2.2.1) fun o=>sH q f o i l)<|bH (wX g.1.1 g.1.2.1 g.1.2.2.1 g.1.2.2.2.1 g.1.2.2.2.2.1 g.1.2.2.2.2.2.1) fun o=>sH q f o i l)<|j e.1.1 e.1.2.1 e.1.2.2.2.1 e.1.2.2.2.2.1 e.1.2.2.2.2.2.1 e.1.2.2.1)<|j d.1.1 d.1.2.1 d.1.2.2.2.1 d.1.2.2.2.2.1 d.1.2.2.2.2.2.1 d.1.2.2.1) a7)<|j d.1.1 d.1.2.1 d.1.2.2.2.1 d.1.2.2.2.2.1 d.1.2.2.2.2.2.1 d.1.2.2.1)<|j p s u v x y
def xY (q:iY):Nat->Bool->(List gu)->bZ->Int->Int->Int->(List gJ)->Option (aaF.den⊕abk.den)
 |0,_,_,_,_,_,_,_=>a7
 |n+1,d,e,f,g,h,i,j=>Lh q (xY q n) (fun l o p s u v=>a6 (.inl ((),((),()),((l,o,p,s,u,()),v,())))) (a6 (.inr ((),((),()),()))) d e f g h i j
def azH (q:iY) (n:Nat) (v:ZW.den):=bs (xY q n) v
noncomputable def akm (q:iY):dE:=fF atL ZW aaF abk (.exit 0) (azH q bM) 12
def asw (q:iY) (j:List gu) (l:bZ) (o:List gJ) (p s u:Int):Option Jc:=bH (wX j l o p s u) fun d=>bH (rU d.1.1 d.1.2.1 d.1.2.2.1 d.1.2.2.2.1 d.1.2.2.2.2.1 d.1.2.2.2.2.2.1) fun e=>bH (mX e.1.1 e.1.2.1 e.1.2.2.1 e.1.2.2.2.1 e.1.2.2.2.2.1 e.1.2.2.2.2.2.1 [107]) fun f=>bH (rU f.1.1 f.1.2.1 f.1.2.2.1 f.1.2.2.2.1 f.1.2.2.2.2.1 f.1.2.2.2.2.2.1) fun g=>bH (xY q bM true g.1.1 g.1.2.1 g.1.2.2.2.1 g.1.2.2.2.2.1 g.1.2.2.2.2.2.1 g.1.2.2.1) fun v=>dN v (fun h=>bH (mX h.2.2.1.1 h.2.2.1.2.1 h.2.2.2.1 h.2.2.1.2.2.1 h.2.2.1.2.2.2.1 h.2.2.1.2.2.2.2.1 [122]) fun i=>a6 ((i.1.1,(i.1.2.1,(i.1.2.2.1,(i.1.2.2.2.1,(i.1.2.2.2.2.1,(i.1.2.2.2.2.2.1,())))))),())) (fun x=>a7)
noncomputable def Yr (q:iY):Env:=gB prog tt [] [(233,10,ajI),(233,5,atL)] [(233,10,aer q),(233,5,akm q)] [] [(49,Pv),(50,Hr),(51,XL),(52,aik q),(54,Px),(89,Py),(187,UW),(234,aw4)]
def afb (q:iY) {d:Type} (a:P8.den->Option d) (b:Ul.den->Option d) (c:Uu.den->Option d) (v:P8.den):Option d:=bs (Ld q (br a) (br b) (c ((),((),()),()))) v
theorem au5 (q:iY):dQ (Yr q) 233 aiD (aer q):=lu (afb q) (h2:=by intros;simp only[afb,br,bs,Ld,cO,cZ,bG,bW,dh])
def alL (q:iY) {d:Type} (a:ZW.den->Option d) (b:aaF.den->Option d) (c:abk.den->Option d) (v:ZW.den):Option d:=bs (Lh q (br a) (fun e f g h i j=>b ((),((),()),((e,f,g,h,i,()),j,()))) (c ((),((),()),()))) v
theorem aAw (q:iY):dQ (Yr q) 233 aqI (akm q):=lu (alL q) (h2:=by intros;simp only[alL,br,bs,Lh,cO,cZ,bG,bW,dh,sH])
theorem aEF (q:iY):dM (Yr q) 233 axX:=nV [aiD,aqI] (aD (fM (au5 q)) (aD (fM (aAw q)) aN))
theorem anp (q:iY) (H:H52 q):eu (Yr q):=eB aN [233] (aD ⟨f233,axX,by kernel_rfl,by kernel_rfl,aEF q⟩ aN) (hx:=(aD qc (aD kJ (aD EH (aD H.1 (aD qf (aD xy (aD Gp (aD XI aN)))))))))
def gU:Nat->iY
 |0=>⟨(fun _ _ _ _ _ _=>a7),(fun _ _ _ _ _ _=>a7),(fun _ _ _ _ _ _=>a7),(fun _ _ _ _ _ _=>a7),(fun _ _ _ _ _ _=>a7),(fun _ _ _ _ _ _=>a7),(fun _ _ _ _ _ _=>a7),(fun _ _ _ _ _ _=>a7),(fun _ _ _ _ _ _=>a7)⟩
 |r+1=>⟨aDK (gU r),aDM (gU r),aso (gU r),asq (gU r),ast (gU r),asu (gU r),zO (gU r),asv (gU r),asw (gU r)⟩
def aDO (d:List gu) (e:bZ) (f:List gJ) (g h i:Int):Option Jc:=(gU bM).q52 d e f g h i
def aCv:fZ:=⟨100,Vd,[],[],fun x y=>aDO x.1 x.2.1 x.2.2.1 x.2.2.2.1 x.2.2.2.2.1 x.2.2.2.2.2.1⟩
theorem abc (q:iY) (d:H52 q):H52 ⟨aDK q,aDM q,aso q,asq q,ast q,asu q,zO q,asv q,asw q⟩:=⟨sB (arN q d),sB (ar1 q d),sB (amT q d),sB (am5 q d),sB (anm q d),sB (ann q d),sB (anc q d),sB (ano q d),sB (anp q d)⟩
theorem avt: ∀r,H52 (gU r)
 |0=>⟨nT fun _ _=>rfl,nT fun _ _=>rfl,nT fun _ _=>rfl,nT fun _ _=>rfl,nT fun _ _=>rfl,nT fun _ _=>rfl,nT fun _ _=>rfl,nT fun _ _=>rfl,nT fun _ _=>rfl⟩
 |r+1=>abc _ (avt r)
theorem axn:dW prog 52 aCv:=(avt bM).1
noncomputable def b29:Code:=(Tryz.f29.body).getD .skip
noncomputable def aBh:Code:=cA (cA (cB (cA (cB (cB (b29))))))
noncomputable def aBi:Code:=cA (cA (cA (cB (cB (cB (cB (cB (cB (b29)))))))))
def aBM:eQ:=⟨[0,3,4,100003],[],[0,3],[],[2],[(2,nK)]⟩
def aBN:eQ:=⟨[0,5,6,7,100009],[],[5,6],[],[2],[(2,nK)]⟩
def akK:SP:=⟨us [.v oG,.u,.u,bR,bO] 56,[]⟩
def ahl:SP:=⟨us [.v oG,.u,.u,bR] 57,[]⟩
def ahH:SP:=⟨us [.u,.u,c7] 58,[]⟩
def abY {e:Type} (i:(List gu)->bZ->Int->Option e) (j:(List gu)->bZ->Option e) (l:(List gJ)->Option e) (d:List gu) (g:bZ) (f:Int):Option e:=cond (gV f (bI d)) (cond (fD d f) (bH (SL (dw d (0,([],(0,(0,())))) f)) fun h=>cond (iH g h.1) (i d (bT g h.1) (di .i64 f 1)) a7) a7)<|j d g
def MK:Nat->(List gu)->bZ->Int->Option (ahl.den⊕ahH.den)
 |0,_,_,_=>a7
 |n+1,d,e,f=>abY (MK n) (fun g h=>a6 (.inl ((g,h,()),()))) (fun i=>a6 (.inr ((i,()),()))) d e f
def aEU (n:Nat) (v:akK.den):=ba (MK n) v
noncomputable def aux:dE:=fJ aBM akK ahl ahH (.exit 0) (aEU bM) 6
def akL:SP:=⟨us [.v oG,.u,.u,.u,.u,.ptr 1000024 0,bO,bO] 53,dx⟩
def ahm:SP:=⟨us [.u,.u,.u,.u,.u,.ptr 1000024 0,bO] 54,dx⟩
def ahI:SP:=⟨us [.u,.u,c7] 58,[]⟩
def abZ {i:Type} (j:(List gu)->Int->Int->(List gJ)->(List gu)->bZ->Int->Int->Int->Option i) (x:Int->(List gJ)->(List gu)->bZ->Int->Int->Int->Option i) (y:(List gJ)->Option i) (g:List gu) (h o:Int) (p:List gJ) (q:List gu) (s:bZ) (l u v:Int):Option i:=cond (gV l (bI g)) (bH (nU q s p l u v [110]) fun e=>cond e.2.1 (j g h o e.1.2.2.1 e.1.1 e.1.2.1 (di .i64 e.1.2.2.2.1 1) e.1.2.2.2.2.1 e.1.2.2.2.2.2.1)<|cond (!(bP o 2)) (bH (PD e.1.1 e.1.2.1 e.1.2.2.1 e.1.2.2.2.1 e.1.2.2.2.2.1 e.1.2.2.2.2.2.1) fun d=>cond d.2.1 (bH (aDO d.1.1 d.1.2.1 d.1.2.2.1 d.1.2.2.2.1 d.1.2.2.2.2.1 d.1.2.2.2.2.2.1) fun f=>j g h 2 f.1.2.2.1 f.1.1 f.1.2.1 f.1.2.2.2.1 f.1.2.2.2.2.1 f.1.2.2.2.2.2.1)<|bH (LZ d.1.1 d.1.2.1 d.1.2.2.1 d.1.2.2.2.1 d.1.2.2.2.2.1 d.1.2.2.2.2.2.1 17) fun f=>j g h 17 f.1.2.2.1 f.1.1 f.1.2.1 f.1.2.2.2.1 f.1.2.2.2.2.1 f.1.2.2.2.2.2.1)<|bH (LZ e.1.1 e.1.2.1 e.1.2.2.1 e.1.2.2.2.1 e.1.2.2.2.2.1 e.1.2.2.2.2.2.1 17) fun d=>j g h 17 d.1.2.2.1 d.1.1 d.1.2.1 d.1.2.2.2.1 d.1.2.2.2.2.1 d.1.2.2.2.2.2.1)<|x h p q s l u v
def Iw:Nat->(List gu)->Int->Int->(List gJ)->(List gu)->bZ->Int->Int->Int->Option (ahm.den⊕ahI.den)
 |0,_,_,_,_,_,_,_,_,_=>a7
 |n+1,d,e,f,g,h,i,j,l,o=>abZ (Iw n) (fun p q s u v x y=>a6 (.inl ((p,()),(q,(s,u,v,x,y,()),())))) (fun z=>a6 (.inr ((z,()),()))) d e f g h i j l o
def aEV (n:Nat) (v:akL.den):=Iw n v.1.1 v.1.2.1 v.1.2.2.1 v.2.1 v.2.2.1.1 v.2.2.1.2.1 v.2.2.1.2.2.1 v.2.2.1.2.2.2.1 v.2.2.1.2.2.2.2.1
noncomputable def auy:dE:=fJ aBN akL ahm ahI (.exit 2) (aEV bM) 12
def anP (g:List gu):Option ((List gJ)×Unit):=bH (MK bM g [] 0) fun h=>dN h (fun f=>bH (Df f.1.1 f.1.2.1 [] 0 (-1) 0 1) fun d=>bH (Iw bM f.1.1 d.2.1 0 d.1.2.2.1 d.1.1 d.1.2.1 d.1.2.2.2.1 d.1.2.2.2.2.1 d.1.2.2.2.2.2.1) fun i=>dN i (fun e=>bH (pK e.2.2.1.1 e.2.2.1.2.1 e.2.1 e.2.2.1.2.2.1 e.2.2.1.2.2.2.1 e.2.2.1.2.2.2.2.1 e.1.1) fun j=>a6 (j.1.2.2.1,())) (fun l=>a6 (l.1.1,()))) (fun o=>a6 (o.1.1,()))
def aCn:Sum:=⟨[oG],[(.list nK,false)],fun x=>anP x.1⟩
noncomputable def aiN:Env:=iJ prog tt 29 [(48,aCu)] [(3,aBM),(9,aBN)] [(3,aux),(9,auy)] [(49,Pv),(50,Hr),(51,XL),(52,aCv),(53,amo),(54,Px)]
def avH {d:Type} (a:akK.den->Option d) (b:ahl.den->Option d) (c:ahH.den->Option d) (v:akK.den):Option d:=ba (abY (a8 a) (aL b) (aE c)) v
theorem aFq:dQ aiN 29 aBh aux:=uV (avH) (h2:=by intros;simp only[avH,a8,aL,aE,ba,abY,cO,cZ,bG,bW,dh])
def avI {d:Type} (a:akL.den->Option d) (b:ahm.den->Option d) (c:ahI.den->Option d) (v:akL.den):Option d:=abZ (fun e f g h i j l o p=>a ((e,f,g,()),(h,(i,j,l,o,p,()),()))) (fun q s u x y z A=>b ((q,()),(s,(u,x,y,z,A,()),()))) (aE c) v.1.1 v.1.2.1 v.1.2.2.1 v.2.1 v.2.2.1.1 v.2.2.1.2.1 v.2.2.1.2.2.1 v.2.2.1.2.2.2.1 v.2.2.1.2.2.2.2.1
theorem aFr:dQ aiN 29 aBi auy:=uV (avI) (h2:=by intros;simp only[avI,aE,abZ,cO,cZ,bG,bW,dh])
theorem aH9:dM aiN 29 b29:=nV [aBh,aBi] (aD (fM (aFq)) (aD (fM (aFr)) aN))
theorem aru:eu aiN:=eA Tryz.f29 (aD axm aN) (aH9) (hx:=(aD qc (aD kJ (aD EH (aD axn (aD Lp (aD qf aN)))))))
theorem axd:dU prog 29 aCn:=sA aru
end
end Go.Proofs.YtlhpdcadgbjhiaaGreatDoor
