/- Parts of the proof, joined and shortened by a program: the plain machine, the functions as it prints them, and the mathematics over them. -/
import Derived.Test.YtlhpdcadgbjhiaaGreatDoorV3
set_option linter.unusedVariables false
set_option linter.unusedSimpArgs false
set_option maxRecDepth 100000
set_option maxHeartbeats 4000000
namespace Go.Proofs.YtlhpdcadgbjhiaaGreatDoor
section
open Option renaming some → a6, none → a7
open Tryz
open Go.RowKit
def aoq (d:Int):Option o8:=cond (leI 4 d) (a6 ((leI d 12),()))<|some (false,())
def arS:Sum:=⟨[bW],Wl,fun x=>aoq x.1⟩
theorem agf:dO prog 217 arS:=qA Tryz.f217 [] aN
def abS (e:bH):Option EO:=aZ (Jp e) fun d=>cond (bC d.1 1) (a6 (97,()))<|cond (bC d.1 2) (a6 (111,()))<|cond (bC d.1 3) (a6 (121,()))<|aZ (aoq d.1) fun f=>cond f.1 (a6 (60,()))<|cond (!(bC d.1 0)) (cond (gm e 0) (a6 ((bU e 0),())) a7)<|some (63,())
def arN:Sum:=⟨[.str],[(.int .u8,false)],fun x=>abS x.1⟩
theorem af5:dO prog 173 arN:=qA f173 [] (sE I4 (sE agf aN))
def Tu (d:bH):Option EO:=cond (iG d [100,111]) (a6 (100,()))<|cond (iG d [100,111,110,101]) (a6 (103,()))<|cond (iG d [102,111,114]) (a6 (114,()))<|cond (iG d [105,110]) (a6 (107,()))<|cond (iG d [99,97,115,101]) (a6 (99,()))<|cond (iG d [101,115,97,99]) (a6 (122,()))<|some (120,())
def KC (d:bH):Option EO:=cond (iG d [105,102]) (a6 (105,()))<|cond (iG d [116,104,101,110]) (a6 (116,()))<|cond (iG d [101,108,105,102]) (a6 (101,()))<|cond (iG d [101,108,115,101]) (a6 (108,()))<|cond (iG d [102,105]) (a6 (102,()))<|cond (iG d [119,104,105,108,101]) (cond (iG d [119,104,105,108,101]) (a6 (119,()))<|Tu d)<|cond (iG d [117,110,116,105,108]) (a6 (119,()))<|Tu d
def abT (d:bH):Option EO:=cond (iG d [33]) (cond (iG d [33]) (cond (gm d 0) (a6 ((bU d 0),())) a7)<|KC d)<|cond (iG d [123]) (cond (iG d [123]) (cond (gm d 0) (a6 ((bU d 0),())) a7)<|KC d)<|cond (iG d [125]) (cond (gm d 0) (a6 ((bU d 0),())) a7)<|KC d
def arO:Sum:=⟨[.str],[(.int .u8,false)],fun x=>abT x.1⟩
theorem af6:dO prog 174 arO:=qA f174 [] aN
def Nb (d:eG):Option EO:=cond (bC d.1 2) (a6 (110,()))<|cond (bC d.1 4) (aZ (abS d.2.1) fun e=>a6 (e.1,()))<|cond (bC d.1 5) (a6 (35,()))<|cond (bC d.1 6) (aZ (abT d.2.1) fun e=>a6 (e.1,()))<|some (63,())
def arJ:Sum:=⟨[RS],[(.int .u8,false)],fun x=>Nb x.1⟩
theorem afX:dO prog 145 arJ:=qA f145 [] (sE af5 (sE af6 aN))
def uV (d:List eG) (e:Int) (g:List eX) (h i f:Int):Option (taE×EO):=cond (leI (bi d) (bV .i64 e f)) (a6 ((d,(e,(g,(h,(i,()))))),(0,())))<|cond (gm d (bV .i64 e f)) (aZ (Nb (bT d (0,([],(0,(0,())))) (bV .i64 e f))) fun j=>a6 ((d,(e,(g,(h,(i,()))))),(j.1,()))) a7
def abe:fF:=⟨90,Dl,[bW],[.int .u8],fun x y=>uV x.1 x.2.1 x.2.2.1 x.2.2.2.1 x.2.2.2.2.1 y.1⟩
theorem pX:dJ prog 103 abe:=qB [] (sE afX aN)
def Qv (e:List eG) (f:Int) (g:List eX) (h i:Int) (j:bH):Option (taE×o8):=aZ (uV e f g h i 0) fun d=>cond (!(bC d.2.1 0)) (aZ (Xg j d.2.1) fun l=>a6 ((d.1.1,(d.1.2.1,(d.1.2.2.1,(d.1.2.2.2.1,(d.1.2.2.2.2.1,()))))),((leI 0 l.1),())))<|some ((d.1.1,(d.1.2.1,(d.1.2.2.1,(d.1.2.2.2.1,(d.1.2.2.2.2.1,()))))),(false,()))
def akI:fF:=⟨90,Dl,[.str],[.bool],fun x y=>Qv x.1 x.2.1 x.2.2.1 x.2.2.2.1 x.2.2.2.2.1 y.1⟩
theorem IZ:dJ prog 102 akI:=qB [] (sE RF aN) (sF pX aN)
def oZ (e:List eG) (f:Int) (g:List eX) (h i:Int) (j:bH):Option (taE×o8):=aZ (Qv e f g h i j) fun d=>cond (!d.2.1) (a6 ((d.1.1,(d.1.2.1,(d.1.2.2.1,(d.1.2.2.2.1,(d.1.2.2.2.2.1,()))))),(false,())))<|some ((d.1.1,((bV .i64 d.1.2.1 1),(d.1.2.2.1,(d.1.2.2.2.1,(d.1.2.2.2.2.1,()))))),(true,()))
def BF:fF:=⟨90,Dl,[.str],[.bool],fun x y=>oZ x.1 x.2.1 x.2.2.1 x.2.2.2.1 x.2.2.2.2.1 y.1⟩
theorem kX:dJ prog 69 BF:=qB [] aN (sF IZ aN)
def Xh (f:List eG) (g:Int) (h:List eX) (i j:Int):Option (taE×o8):=aZ (uV f g h i j 0) fun d=>cond (bC d.2.1 60) (a6 ((d.1.1,(d.1.2.1,(d.1.2.2.1,(d.1.2.2.2.1,(d.1.2.2.2.2.1,()))))),(true,())))<|cond (bC d.2.1 35) (aZ (uV d.1.1 d.1.2.1 d.1.2.2.1 d.1.2.2.2.1 d.1.2.2.2.2.1 1) fun e=>a6 ((e.1.1,(e.1.2.1,(e.1.2.2.1,(e.1.2.2.2.1,(e.1.2.2.2.2.1,()))))),((bC e.2.1 60),())))<|some ((d.1.1,(d.1.2.1,(d.1.2.2.1,(d.1.2.2.2.1,(d.1.2.2.2.2.1,()))))),(false,()))
def arK:fF:=⟨90,Dl,[],[.bool],fun x y=>Xh x.1 x.2.1 x.2.2.1 x.2.2.2.1 x.2.2.2.2.1⟩
theorem RG:dJ prog 146 arK:=qB [] aN (sF pX aN)
def Qx (f:List eG) (g:Int) (h:List eX) (i e:Int):Option (taE×o8):=cond (gY e 200) (aZ (Qv f g h i e [123,40,105,119,114,99]) fun d=>a6 ((d.1.1,(d.1.2.1,(d.1.2.2.1,(d.1.2.2.2.1,(d.1.2.2.2.2.1,()))))),(d.2.1,())))<|some ((f,(g,(h,(i,(e,()))))),(false,()))
def abg:fF:=⟨90,Dl,[],[.bool],fun x y=>Qx x.1 x.2.1 x.2.2.1 x.2.2.2.1 x.2.2.2.2.1⟩
theorem I5:dJ prog 147 abg:=qB [] aN (sF IZ aN)
def WY (g:List eG) (h:Int) (i:List eX) (j l:Int):Option (taE×o8):=aZ (uV g h i j l 0) fun d=>cond (bC d.2.1 120) (a6 ((d.1.1,(d.1.2.1,(d.1.2.2.1,(d.1.2.2.2.1,(d.1.2.2.2.2.1,()))))),(true,())))<|aZ (Xh d.1.1 d.1.2.1 d.1.2.2.1 d.1.2.2.2.1 d.1.2.2.2.2.1) fun e=>cond e.2.1 (a6 ((e.1.1,(e.1.2.1,(e.1.2.2.1,(e.1.2.2.2.1,(e.1.2.2.2.2.1,()))))),(true,())))<|aZ (Qx e.1.1 e.1.2.1 e.1.2.2.1 e.1.2.2.2.1 e.1.2.2.2.2.1) fun f=>a6 ((f.1.1,(f.1.2.1,(f.1.2.2.1,(f.1.2.2.2.1,(f.1.2.2.2.2.1,()))))),(f.2.1,()))
def akJ:fF:=⟨90,Dl,[],[.bool],fun x y=>WY x.1 x.2.1 x.2.2.1 x.2.2.2.1 x.2.2.2.2.1⟩
theorem Rw:dJ prog 104 akJ:=qB [] aN (sF pX (sF RG (sF I5 aN)))
def TE (f:List eG) (g:Int) (h:List eX) (i j:Int):Option (taE×o8):=aZ (uV f g h i j 0) fun d=>cond (bC d.2.1 33) (a6 ((d.1.1,(d.1.2.1,(d.1.2.2.1,(d.1.2.2.2.1,(d.1.2.2.2.2.1,()))))),(true,())))<|aZ (WY d.1.1 d.1.2.1 d.1.2.2.1 d.1.2.2.2.1 d.1.2.2.2.2.1) fun e=>a6 ((e.1.1,(e.1.2.1,(e.1.2.2.1,(e.1.2.2.2.1,(e.1.2.2.2.2.1,()))))),(e.2.1,()))
def RJ:fF:=⟨90,Dl,[],[.bool],fun x y=>TE x.1 x.2.1 x.2.2.1 x.2.2.2.1 x.2.2.2.2.1⟩
theorem BG:dJ prog 70 RJ:=qB [] aN (sF pX (sF Rw aN))
noncomputable def apg:Code:=(f106.body).getD .skip
noncomputable def agV:Code:=cA (cA (cA (cB (cB (apg)))))
def aiL:dW:=⟨[0,3,100002],[],[3],[],[2],[]⟩
def Uw:SQ:=⟨[ct,.u,.u,ci,.u,.u,.u,.u,.u],cY,cU⟩
def UQ:SQ:=⟨[.u,.u,.u,ci,.u,.u,.u,.u,.u],cY,cU⟩
def Va:SQ:=⟨us [.u,.u,ci] 6,cY,[]⟩
def KW {e:Type} (g h:Bool->(List eG)->Int->Int->Int->(List eX)->Option e) (q:Bool->Option e) (f:Bool) (i:List eG) (j l o:Int) (p:List eX):Option e:=aZ (oZ i j p l o [110]) fun d=>cond d.2.1 (g f d.1.1 d.1.2.1 d.1.2.2.2.1 d.1.2.2.2.2.1 d.1.2.2.1)<|h f d.1.1 d.1.2.1 d.1.2.2.2.1 d.1.2.2.2.2.1 d.1.2.2.1
def Gi:Nat->Bool->(List eG)->Int->Int->Int->(List eX)->Option (UQ.den⊕Va.den)
 |0,_,_,_,_,_,_=>a7
 |n+1,d,e,f,g,h,i=>KW (Gi n) (fun j l o p q s=>a6 (.inl ((j,()),((),()),((l,o,p,q,()),s,())))) (fun u=>a6 (.inr ((u,()),((),()),()))) d e f g h i
def amV (n:Nat) (v:Uw.den):=bc (Gi n) v
noncomputable def acr:dA:=eH aiL Uw UQ Va (.exit 0) (amV bD) 6
def mQ (f:List eG) (g:Int) (h:List eX) (i j:Int):Option (taE×o8):=aZ (oZ f g h i j [110]) fun d=>aZ (Gi bD d.2.1 d.1.1 d.1.2.1 d.1.2.2.2.1 d.1.2.2.2.2.1 d.1.2.2.1) fun l=>dB l (fun e=>a6 ((e.2.2.1.1,(e.2.2.1.2.1,(e.2.2.2.1,(e.2.2.1.2.2.1,(e.2.2.1.2.2.2.1,()))))),(e.1.1,()))) (fun o=>a7)
def zB:fF:=⟨90,Dl,[],[.bool],fun x y=>mQ x.1 x.2.1 x.2.2.1 x.2.2.2.1 x.2.2.2.2.1⟩
noncomputable def ZJ:Env:=fK prog tt [] [(106,2,aiL)] [(106,2,acr)] [] [(69,BF)]
def ada {d:Type} (a:Uw.den->Option d) (b:UQ.den->Option d) (c:Va.den->Option d) (v:Uw.den):Option d:=bc (KW (bb a) (bb b) (fun e=>c ((e,()),((),()),()))) v
theorem anm:dU ZJ 106 agV acr:=lN (ada) (h2:=by intros;simp only[ada,bb,bc,KW,di,dm,aY,bZ,dn])
theorem aqe:dL ZJ 106 apg:=zL [agV] (aD (fM (anm)) aN)
theorem aeh:eP ZJ:=eB aN [106] (aD ⟨f106,apg,by kernel_rfl,by kernel_rfl,aqe⟩ aN) (hx:=(aD kX aN))
theorem oq:dJ prog 106 zB:=sB aeh
def ja:dW:=⟨[0,2,6,7],[],[],[],[],[]⟩
def uX (g:List eG) (d:Int) (f:List eX) (e h:Int):Option yf:=cond (bC 18 18) (cond (bC d d) (cond (bC e e) (cond (dZ (bI f [(18,(d,(0,(e,()))))]) 32) (cond (bC 18 18) (cond (bC d d) (cond (bC e e) (cond ((bC 18 18)&&((bC d d)&&((bC 0 0)&&((bC e e)&&true)))) (cond (gm (bI f [(18,(d,(0,(e,()))))]) (bi f)) (cond (mV (bP (bi f)) (bI f [(18,(d,(0,(e,()))))])) (a6 ((g,(d,((gp (bI f [(18,(d,(0,(e,()))))]) (bP (bi f)) ((cO (bI f [(18,(d,(0,(e,()))))]) (0,(0,(0,(0,())))) (bP (bi f))).1,((cO (bI f [(18,(d,(0,(e,()))))]) (0,(0,(0,(0,())))) (bP (bi f))).2.1,(d,((cO (bI f [(18,(d,(0,(e,()))))]) (0,(0,(0,(0,())))) (bP (bi f))).2.2.2.1,()))))),(e,(h,()))))),())) a7) a7) a7) a7) a7) a7) a7) a7) a7) a7
def I8:fF:=⟨90,Dl,[],[],fun x y=>uX x.1 x.2.1 x.2.2.1 x.2.2.2.1 x.2.2.2.2.1⟩
theorem pY:dJ prog 175 I8:=qB [(175,600000,sG),(41,600003,ja)] aN
def aac (d:bH):Option o8:=cond (!(iG d [])) (aZ (aag d 0) fun e=>a6 ((bC e.1 (bi d)),()))<|some (false,())
def alg:Sum:=⟨[.str],Wl,fun x=>aac x.1⟩
theorem OZ:dO prog 60 alg:=qA f60 [] (sE O0 aN)
def abX (f:List eG) (g:Int) (h:List eX) (i j:Int):Option (taE×o8):=aZ (uV f g h i j 0) fun e=>cond (bC e.2.1 120) (aZ (uV e.1.1 e.1.2.1 e.1.2.2.1 e.1.2.2.2.1 e.1.2.2.2.2.1 1) fun d=>cond (bC d.2.1 40) (cond (gY d.1.2.2.2.2.1 200) (cond (gm d.1.1 d.1.2.1) (aZ (aac (bT d.1.1 (0,([],(0,(0,())))) d.1.2.1).2.1) fun l=>a6 ((d.1.1,(d.1.2.1,(d.1.2.2.1,(d.1.2.2.2.1,(d.1.2.2.2.2.1,()))))),(l.1,()))) a7)<|some ((d.1.1,(d.1.2.1,(d.1.2.2.1,(d.1.2.2.2.1,(d.1.2.2.2.2.1,()))))),(false,())))<|some ((d.1.1,(d.1.2.1,(d.1.2.2.1,(d.1.2.2.2.1,(d.1.2.2.2.2.1,()))))),(false,())))<|some ((e.1.1,(e.1.2.1,(e.1.2.2.1,(e.1.2.2.2.1,(e.1.2.2.2.2.1,()))))),(false,()))
def ak2:fF:=⟨90,Dl,[],[.bool],fun x y=>abX x.1 x.2.1 x.2.2.1 x.2.2.2.1 x.2.2.2.2.1⟩
theorem agh:dJ prog 220 ak2:=qB [] (sE OZ aN) (sF pX aN)
def ap5:dW:=⟨[1,2],[],[],[],[],[]⟩
def Np (h:List eG) (d:Int) (f:List eX) (e i g:Int):Option yf:=cond (bC g g) (cond (bC d d) (cond (bC e e) (cond (dZ (bI f [(g,(d,(0,(e,()))))]) 32) (cond (bC g g) (cond (bC d d) (cond (bC e e) (cond ((bC g g)&&((bC d d)&&((bC 0 0)&&((bC e e)&&true)))) (cond (gm (bI f [(g,(d,(0,(e,()))))]) (bi f)) (cond (mV (bP (bi f)) (bI f [(g,(d,(0,(e,()))))])) (a6 ((h,((bV .i64 d 1),((gp (bI f [(g,(d,(0,(e,()))))]) (bP (bi f)) ((cO (bI f [(g,(d,(0,(e,()))))]) (0,(0,(0,(0,())))) (bP (bi f))).1,((cO (bI f [(g,(d,(0,(e,()))))]) (0,(0,(0,(0,())))) (bP (bi f))).2.1,((bV .i64 d 1),((cO (bI f [(g,(d,(0,(e,()))))]) (0,(0,(0,(0,())))) (bP (bi f))).2.2.2.1,()))))),(e,(i,()))))),())) a7) a7) a7) a7) a7) a7) a7) a7) a7) a7
def adW:fF:=⟨90,Dl,[bW],[],fun x y=>Np x.1 x.2.1 x.2.2.1 x.2.2.2.1 x.2.2.2.2.1 y.1⟩
theorem Hf:dJ prog 72 adW:=qB [(72,600001,ap5),(41,600003,ja)] aN
def Jt (d:List eG) (e:Int) (f:List eX) (g h:Int):Option (taE×o8):=cond (gY e (bi d)) (cond (gm d e) (a6 ((d,(e,(f,(g,(h,()))))),((bC (bT d (0,([],(0,(0,())))) e).1 6),()))) a7)<|some ((d,(e,(f,(g,(h,()))))),(false,()))
def VY:fF:=⟨90,Dl,[],[.bool],fun x y=>Jt x.1 x.2.1 x.2.2.1 x.2.2.2.1 x.2.2.2.2.1⟩
theorem C9:dJ prog 261 VY:=qB [] aN
def Js (f:List eG) (g:Int) (h:List eX) (i j:Int):Option yf:=aZ (Jt f g h i j) fun d=>cond d.2.1 (aZ (Np d.1.1 d.1.2.1 d.1.2.2.1 d.1.2.2.2.1 d.1.2.2.2.2.1 7) fun e=>a6 ((e.1.1,(e.1.2.1,(e.1.2.2.1,(e.1.2.2.2.1,(e.1.2.2.2.2.1,()))))),()))<|aZ (uX d.1.1 d.1.2.1 d.1.2.2.1 d.1.2.2.2.1 d.1.2.2.2.2.1) fun e=>a6 ((e.1.1,(e.1.2.1,(e.1.2.2.1,(e.1.2.2.2.1,(e.1.2.2.2.2.1,()))))),())
def VX:fF:=⟨90,Dl,[],[],fun x y=>Js x.1 x.2.1 x.2.2.1 x.2.2.2.1 x.2.2.2.2.1⟩
theorem CZ:dJ prog 259 VX:=qB [] aN (sF Hf (sF pY (sF C9 aN)))
def acm:dW:=⟨[1],[],[],[],[],[]⟩
def xC (h:List eG) (i:Int) (j:List eX) (l o:Int):Option (taE×o8):=aZ (Xh h i j l o) fun d=>cond (!d.2.1) (a6 ((d.1.1,(d.1.2.1,(d.1.2.2.1,(d.1.2.2.2.1,(d.1.2.2.2.2.1,()))))),(false,())))<|cond (bC 8 8) (cond (bC d.1.2.1 d.1.2.1) (cond (bC d.1.2.2.2.1 d.1.2.2.2.1) (cond (dZ (bI d.1.2.2.1 [(8,(d.1.2.1,(0,(d.1.2.2.2.1,()))))]) 32) (cond (bC 8 8) (cond (bC d.1.2.1 d.1.2.1) (cond (bC d.1.2.2.2.1 d.1.2.2.2.1) (cond ((bC 8 8)&&((bC d.1.2.1 d.1.2.1)&&((bC 0 0)&&((bC d.1.2.2.2.1 d.1.2.2.2.1)&&true)))) (aZ (oZ d.1.1 d.1.2.1 (bI d.1.2.2.1 [(8,(d.1.2.1,(0,(d.1.2.2.2.1,()))))]) (bi d.1.2.2.1) d.1.2.2.2.2.1 [35]) fun f=>aZ (oZ f.1.1 f.1.2.1 f.1.2.2.1 f.1.2.2.2.1 f.1.2.2.2.2.1 [60]) fun g=>aZ (Js g.1.1 g.1.2.1 g.1.2.2.1 g.1.2.2.2.1 g.1.2.2.2.2.1) fun e=>cond (gm e.1.2.2.1 (bi d.1.2.2.1)) (cond (mV (bP (bi d.1.2.2.1)) e.1.2.2.1) (a6 ((e.1.1,(e.1.2.1,((gp e.1.2.2.1 (bP (bi d.1.2.2.1)) ((cO e.1.2.2.1 (0,(0,(0,(0,())))) (bP (bi d.1.2.2.1))).1,((cO e.1.2.2.1 (0,(0,(0,(0,())))) (bP (bi d.1.2.2.1))).2.1,(e.1.2.1,((cO e.1.2.2.1 (0,(0,(0,(0,())))) (bP (bi d.1.2.2.1))).2.2.2.1,()))))),(d.1.2.2.2.1,(e.1.2.2.2.2.1,()))))),(true,()))) a7) a7) a7) a7) a7) a7) a7) a7) a7) a7
def abh:fF:=⟨90,Dl,[],[.bool],fun x y=>xC x.1 x.2.1 x.2.2.1 x.2.2.2.1 x.2.2.2.2.1⟩
theorem RI:dJ prog 258 abh:=qB [(258,600003,acm),(41,600003,ja)] aN (sF kX (sF RG (sF CZ aN)))
def ab7 (d:bH):Option (bH×bH×Bool×Unit):=aZ (aag d 0) fun e=>cond (bC e.1 0) (a6 ([],([],(false,()))))<|cond (bC e.1 (bi d)) (a6 ([],([],(false,()))))<|cond (gm d e.1) (cond (!(bC (bU d e.1) 61)) (a6 ([],([],(false,()))))<|cond (gy (bi d) 0 e.1) (cond (gy (bi d) (bV .i64 e.1 1) (bi d)) (a6 ((sub d 0 e.1),((sub d (bV .i64 e.1 1) (bi d)),(true,())))) a7) a7) a7
def arZ:Sum:=⟨[.str],[(.str,false),(.str,false),(.bool,false)],fun x=>ab7 x.1⟩
theorem agt:dO prog 272 arZ:=qA f272 [] (sE O0 aN)
def ab6 (d:bH):Option o8:=aZ (ab7 d) fun e=>a6 (e.2.2.1,())
def ak8:Sum:=⟨[.str],Wl,fun x=>ab6 x.1⟩
theorem agr:dO prog 262 ak8:=qA f262 [] (sE agt aN)
noncomputable def apm:Code:=(f223.body).getD .skip
noncomputable def ag4:Code:=cA (cA (cB (cB (cA (apm)))))
def aiU:dW:=⟨[0,2,100003],[],[],[],[],[]⟩
def UG:SQ:=⟨us [ct,.u,ci] 28,cY,cU⟩
def U1:SQ:=⟨us [] 31,cY,cU⟩
def Vm:SQ:=⟨us [] 31,cY,[]⟩
def Lj {h:Type} (i:Bool->(List eG)->Int->Int->Int->(List eX)->Option h) (l:(List eG)->Int->Int->Int->(List eX)->Option h) (v:Option h) (j:Bool) (o:List eG) (p q s:Int) (u:List eX):Option h:=aZ (xC o p u q s) fun e=>cond e.2.1 (i j e.1.1 e.1.2.1 e.1.2.2.2.1 e.1.2.2.2.2.1 e.1.2.2.1)<|aZ (Jt e.1.1 e.1.2.1 e.1.2.2.1 e.1.2.2.2.1 e.1.2.2.2.2.1) fun d=>cond (!d.2.1) (l d.1.1 d.1.2.1 d.1.2.2.2.1 d.1.2.2.2.2.1 d.1.2.2.1)<|cond (!j) (cond (gm d.1.1 d.1.2.1) (aZ (ab6 (bT d.1.1 (0,([],(0,(0,())))) d.1.2.1).2.1) fun g=>cond g.1 (aZ (Np d.1.1 d.1.2.1 d.1.2.2.1 d.1.2.2.2.1 d.1.2.2.2.2.1 6) fun f=>i j f.1.1 f.1.2.1 f.1.2.2.2.1 f.1.2.2.2.2.1 f.1.2.2.1)<|aZ (Np d.1.1 d.1.2.1 d.1.2.2.1 d.1.2.2.2.1 d.1.2.2.2.2.1 7) fun f=>i true f.1.1 f.1.2.1 f.1.2.2.2.1 f.1.2.2.2.2.1 f.1.2.2.1) a7)<|aZ (Np d.1.1 d.1.2.1 d.1.2.2.1 d.1.2.2.2.1 d.1.2.2.2.2.1 7) fun g=>i true g.1.1 g.1.2.1 g.1.2.2.2.1 g.1.2.2.2.2.1 g.1.2.2.1
def Ce:Nat->Bool->(List eG)->Int->Int->Int->(List eX)->Option (U1.den⊕Vm.den)
 |0,_,_,_,_,_,_=>a7
 |n+1,d,e,f,g,h,i=>Lj (Ce n) (fun j l o p q=>a6 (.inl ((),((),()),((j,l,o,p,()),q,())))) (a6 (.inr ((),((),()),()))) d e f g h i
def am5 (n:Nat) (v:UG.den):=bc (Ce n) v
noncomputable def acB:dA:=eH aiU UG U1 Vm (.exit 0) (am5 bD) 6
def abY (e:List eG) (f:Int) (g:List eX) (h i:Int):Option yf:=aZ (Ce bD false e f h i g) fun j=>dB j (fun d=>a6 ((d.2.2.1.1,(d.2.2.1.2.1,(d.2.2.2.1,(d.2.2.1.2.2.1,(d.2.2.1.2.2.2.1,()))))),())) (fun l=>a7)
def ak3:fF:=⟨90,Dl,[],[],fun x y=>abY x.1 x.2.1 x.2.2.1 x.2.2.2.1 x.2.2.2.2.1⟩
noncomputable def ZU:Env:=fK prog tt [(262,ak8)] [(223,3,aiU)] [(223,3,acB)] [] [(72,adW),(258,abh),(261,VY)]
def adm {d:Type} (a:UG.den->Option d) (b:U1.den->Option d) (c:Vm.den->Option d) (v:UG.den):Option d:=bc (Lj (bb a) (be b) (c ((),((),()),()))) v
theorem anx:dU ZU 223 ag4 acB:=lN (adm) (h2:=by intros;simp only[adm,bb,be,bc,Lj,di,dm,aY,bZ,dn])
theorem aqr:dL ZU 223 apm:=zL [ag4] (aD (fM (anx)) aN)
theorem aey:eP ZU:=eB (aD agr aN) [223] (aD ⟨f223,apm,by kernel_rfl,by kernel_rfl,aqr⟩ aN) (hx:=(aD Hf (aD RI (aD C9 aN))))
theorem agi:dJ prog 223 ak3:=sB aey
def o9 (f:List eG) (g:Int) (h:List eX) (i j:Int) (l:bH):Option yf:=aZ (oZ f g h i j l) fun d=>cond (!d.2.1) (aZ (uX d.1.1 d.1.2.1 d.1.2.2.1 d.1.2.2.2.1 d.1.2.2.2.2.1) fun e=>a6 ((e.1.1,(e.1.2.1,(e.1.2.2.1,(e.1.2.2.2.1,(e.1.2.2.2.2.1,()))))),()))<|some ((d.1.1,(d.1.2.1,(d.1.2.2.1,(d.1.2.2.2.1,(d.1.2.2.2.2.1,()))))),())
def BD:fF:=⟨90,Dl,[.str],[],fun x y=>o9 x.1 x.2.1 x.2.2.1 x.2.2.2.1 x.2.2.2.2.1 y.1⟩
theorem qc:dJ prog 260 BD:=qB [] aN (sF kX (sF pY aN))
structure gu where
 q71:(List eG)->Int->(List eX)->Int->Int->Option yf
 q105:(List eG)->Int->(List eX)->Int->Int->Option yf
 q148:(List eG)->Int->(List eX)->Int->Int->Option yf
 q177:(List eG)->Int->(List eX)->Int->Int->Option yf
 q222:(List eG)->Int->(List eX)->Int->Int->Option yf
 q219:(List eG)->Int->(List eX)->Int->Int->Option yf
 q268:(List eG)->Int->(List eX)->Int->Int->Option yf
 q251:(List eG)->Int->(List eX)->Int->Int->Option yf
 q252:(List eG)->Int->(List eX)->Int->Int->Option yf
 q253:(List eG)->Int->(List eX)->Int->Int->Option yf
 q254:(List eG)->Int->(List eX)->Int->Int->Option yf
 q255:(List eG)->Int->(List eX)->Int->Int->Option yf
 q256:(List eG)->Int->(List eX)->Int->Int->Option yf
 q270:(List eG)->Int->(List eX)->Int->Int->Option yf
 q269:(List eG)->Int->(List eX)->Int->Int->Option yf
def abj (q:gu):fF:=⟨90,Dl,[],[],fun x y=>q.q71 x.1 x.2.1 x.2.2.1 x.2.2.2.1 x.2.2.2.2.1⟩
def adG (q:gu):fF:=⟨90,Dl,[],[],fun x y=>q.q105 x.1 x.2.1 x.2.2.1 x.2.2.2.1 x.2.2.2.2.1⟩
def adH (q:gu):fF:=⟨90,Dl,[],[],fun x y=>q.q148 x.1 x.2.1 x.2.2.1 x.2.2.2.1 x.2.2.2.2.1⟩
def adI (q:gu):fF:=⟨90,Dl,[],[],fun x y=>q.q177 x.1 x.2.1 x.2.2.1 x.2.2.2.1 x.2.2.2.2.1⟩
def adL (q:gu):fF:=⟨90,Dl,[],[],fun x y=>q.q222 x.1 x.2.1 x.2.2.1 x.2.2.2.1 x.2.2.2.2.1⟩
def VW (q:gu):fF:=⟨90,Dl,[],[],fun x y=>q.q219 x.1 x.2.1 x.2.2.1 x.2.2.2.1 x.2.2.2.2.1⟩
def Dc (q:gu):fF:=⟨90,Dl,[],[],fun x y=>q.q268 x.1 x.2.1 x.2.2.1 x.2.2.2.1 x.2.2.2.2.1⟩
def adO (q:gu):fF:=⟨90,Dl,[],[],fun x y=>q.q251 x.1 x.2.1 x.2.2.1 x.2.2.2.1 x.2.2.2.2.1⟩
def adP (q:gu):fF:=⟨90,Dl,[],[],fun x y=>q.q252 x.1 x.2.1 x.2.2.1 x.2.2.2.1 x.2.2.2.2.1⟩
def adQ (q:gu):fF:=⟨90,Dl,[],[],fun x y=>q.q253 x.1 x.2.1 x.2.2.1 x.2.2.2.1 x.2.2.2.2.1⟩
def adR (q:gu):fF:=⟨90,Dl,[],[],fun x y=>q.q254 x.1 x.2.1 x.2.2.1 x.2.2.2.1 x.2.2.2.2.1⟩
def adS (q:gu):fF:=⟨90,Dl,[],[],fun x y=>q.q255 x.1 x.2.1 x.2.2.1 x.2.2.2.1 x.2.2.2.2.1⟩
def adT (q:gu):fF:=⟨90,Dl,[],[],fun x y=>q.q256 x.1 x.2.1 x.2.2.1 x.2.2.2.1 x.2.2.2.2.1⟩
def adU (q:gu):fF:=⟨90,Dl,[],[],fun x y=>q.q270 x.1 x.2.1 x.2.2.1 x.2.2.2.1 x.2.2.2.2.1⟩
def VZ (q:gu):fF:=⟨90,Dl,[],[],fun x y=>q.q269 x.1 x.2.1 x.2.2.1 x.2.2.2.1 x.2.2.2.2.1⟩
noncomputable def b71:Code:=(f71.body).getD .skip
noncomputable def aoi:Code:=cA (cA (cB (cA (b71))))
def aoz:dW:=⟨[0,100000],[],[],[],[],[]⟩
def acW:SQ:=⟨us bs 15,cY,cU⟩
def aaV:SQ:=⟨us [] 16,cY,cU⟩
def aa0:SQ:=⟨us [] 16,cY,[]⟩
def VT (q:gu) {l:Type} (p o:(List eG)->Int->Int->Int->(List eX)->Option l) (v:Option l) (s:List eG) (h i u:Int) (j:List eX):Option l:=cond (bC 3 3) (cond (bC h h) (cond (bC i i) (cond (dZ (bI j [(3,(h,(0,(i,()))))]) 32) (cond (bC 3 3) (cond (bC h h) (cond (bC i i) (cond ((bC 3 3)&&((bC h h)&&((bC 0 0)&&((bC i i)&&true)))) (aZ (q.q105 s h (bI j [(3,(h,(0,(i,()))))]) (bi j) u) fun g=>cond (gm g.1.2.2.1 (bi j)) (cond (mV (bP (bi j)) g.1.2.2.1) (aZ (oZ g.1.1 g.1.2.1 (gp g.1.2.2.1 (bP (bi j)) ((cO g.1.2.2.1 (0,(0,(0,(0,())))) (bP (bi j))).1,((cO g.1.2.2.1 (0,(0,(0,(0,())))) (bP (bi j))).2.1,(g.1.2.1,((cO g.1.2.2.1 (0,(0,(0,(0,())))) (bP (bi j))).2.2.2.1,()))))) i g.1.2.2.2.2.1 [59,38]) fun f=>cond f.2.1 (aZ (mQ f.1.1 f.1.2.1 f.1.2.2.1 f.1.2.2.2.1 f.1.2.2.2.2.1) fun e=>aZ (TE e.1.1 e.1.2.1 e.1.2.2.1 e.1.2.2.2.1 e.1.2.2.2.2.1) fun d=>cond (!d.2.1) (o d.1.1 d.1.2.1 d.1.2.2.2.1 d.1.2.2.2.2.1 d.1.2.2.1)<|p d.1.1 d.1.2.1 d.1.2.2.2.1 d.1.2.2.2.2.1 d.1.2.2.1)<|aZ (mQ f.1.1 f.1.2.1 f.1.2.2.1 f.1.2.2.2.1 f.1.2.2.2.2.1) fun e=>cond (!e.2.1) (o e.1.1 e.1.2.1 e.1.2.2.2.1 e.1.2.2.2.2.1 e.1.2.2.1)<|aZ (TE e.1.1 e.1.2.1 e.1.2.2.1 e.1.2.2.2.1 e.1.2.2.2.2.1) fun d=>cond (!d.2.1) (o d.1.1 d.1.2.1 d.1.2.2.2.1 d.1.2.2.2.2.1 d.1.2.2.1)<|p d.1.1 d.1.2.1 d.1.2.2.2.1 d.1.2.2.2.2.1 d.1.2.2.1) a7) a7) a7) a7) a7) a7) a7) a7) a7) a7
def AB (q:gu):Nat->(List eG)->Int->Int->Int->(List eX)->Option (aaV.den⊕aa0.den)
 |0,_,_,_,_,_=>a7
 |n+1,d,e,f,g,h=>VT q (AB q n) (fun i j l o p=>a6 (.inl ((),((),()),((i,j,l,o,()),p,())))) (a6 (.inr ((),((),()),()))) d e f g h
def aqD (q:gu) (n:Nat) (v:acW.den):=bh (AB q n) v
noncomputable def ajx (q:gu):dA:=eH aoz acW aaV aa0 (.exit 0) (aqD q bD) 6
def apO (q:gu) (e:List eG) (f:Int) (g:List eX) (h i:Int):Option yf:=aZ (AB q bD e f h i g) fun j=>dB j (fun d=>a6 ((d.2.2.1.1,(d.2.2.1.2.1,(d.2.2.2.1,(d.2.2.1.2.2.1,(d.2.2.1.2.2.2.1,()))))),())) (fun l=>a7)
noncomputable def ahH (q:gu):Env:=fK prog tt [] [(71,0,aoz),(71,600000,sG),(41,600003,ja)] [(71,0,ajx q)] [] [(69,BF),(70,RJ),(105,adG q),(106,zB)]
def akl (q:gu) {d:Type} (a:acW.den->Option d) (b:aaV.den->Option d) (c:aa0.den->Option d) (v:acW.den):Option d:=bh (VT q (be a) (be b) (c ((),((),()),()))) v
theorem aqP (q:gu):dU (ahH q) 71 aoi (ajx q):=lN (akl q) (h2:=by intros;simp only[akl,be,bh,VT,di,dm,aY,bZ,dn])
theorem atl (q:gu):dL (ahH q) 71 b71:=zL [aoi] (aD (fM (aqP q)) aN)
abbrev Zo (q:gu):Prop:=dJ prog 71 (abj q)/\dJ prog 105 (adG q)/\dJ prog 148 (adH q)/\dJ prog 177 (adI q)/\dJ prog 222 (adL q)/\dJ prog 219 (VW q)/\dJ prog 268 (Dc q)/\dJ prog 251 (adO q)/\dJ prog 252 (adP q)/\dJ prog 253 (adQ q)/\dJ prog 254 (adR q)/\dJ prog 255 (adS q)/\dJ prog 256 (adT q)/\dJ prog 270 (adU q)/\dJ prog 269 (VZ q)
theorem ahI (q:gu) (H:Zo q):eP (ahH q):=eB aN [71] (aD ⟨f71,b71,by kernel_rfl,by kernel_rfl,atl q⟩ aN) (hx:=(aD kX (aD BG (aD H.2.1 (aD oq aN)))))
noncomputable def apf:Code:=(f105.body).getD .skip
noncomputable def agU:Code:=cA (cA (cB (apf)))
def aiK:dW:=⟨[0,100001],[],[],[],[],[]⟩
def Uu:SQ:=⟨us bs 9,cY,cU⟩
def UO:SQ:=⟨us [] 10,cY,cU⟩
def U9:SQ:=⟨us [] 10,cY,[]⟩
def KU (q:gu) {g:Type} (h i:(List eG)->Int->Int->Int->(List eX)->Option g) (u:Option g) (j:List eG) (l o p:Int) (s:List eX):Option g:=aZ (oZ j l s o p [97,111]) fun d=>cond d.2.1 (aZ (mQ d.1.1 d.1.2.1 d.1.2.2.1 d.1.2.2.2.1 d.1.2.2.2.2.1) fun e=>aZ (q.q148 e.1.1 e.1.2.1 e.1.2.2.1 e.1.2.2.2.1 e.1.2.2.2.2.1) fun f=>h f.1.1 f.1.2.1 f.1.2.2.2.1 f.1.2.2.2.2.1 f.1.2.2.1)<|i d.1.1 d.1.2.1 d.1.2.2.2.1 d.1.2.2.2.2.1 d.1.2.2.1
def Gh (q:gu):Nat->(List eG)->Int->Int->Int->(List eX)->Option (UO.den⊕U9.den)
 |0,_,_,_,_,_=>a7
 |n+1,d,e,f,g,h=>KU q (Gh q n) (fun i j l o p=>a6 (.inl ((),((),()),((i,j,l,o,()),p,())))) (a6 (.inr ((),((),()),()))) d e f g h
def amU (q:gu) (n:Nat) (v:Uu.den):=bh (Gh q n) v
noncomputable def acp (q:gu):dA:=eH aiK Uu UO U9 (.exit 0) (amU q bD) 6
def ahX (q:gu) (f:List eG) (g:Int) (h:List eX) (i j:Int):Option yf:=aZ (q.q148 f g h i j) fun d=>aZ (Gh q bD d.1.1 d.1.2.1 d.1.2.2.2.1 d.1.2.2.2.2.1 d.1.2.2.1) fun l=>dB l (fun e=>a6 ((e.2.2.1.1,(e.2.2.1.2.1,(e.2.2.2.1,(e.2.2.1.2.2.1,(e.2.2.1.2.2.2.1,()))))),())) (fun o=>a7)
noncomputable def ZI (q:gu):Env:=fK prog tt [] [(105,1,aiK)] [(105,1,acp q)] [] [(69,BF),(106,zB),(148,adH q)]
def ac9 (q:gu) {d:Type} (a:Uu.den->Option d) (b:UO.den->Option d) (c:U9.den->Option d) (v:Uu.den):Option d:=bh (KU q (be a) (be b) (c ((),((),()),()))) v
theorem anl (q:gu):dU (ZI q) 105 agU (acp q):=lN (ac9 q) (h2:=by intros;simp only[ac9,be,bh,KU,di,dm,aY,bZ,dn])
theorem aqd (q:gu):dL (ZI q) 105 apf:=zL [agU] (aD (fM (anl q)) aN)
theorem aeg (q:gu) (H:Zo q):eP (ZI q):=eB aN [105] (aD ⟨f105,apf,by kernel_rfl,by kernel_rfl,aqd q⟩ aN) (hx:=(aD kX (aD oq (aD H.2.2.1 aN))))
noncomputable def LY:Code:=(f176.body).getD .skip
noncomputable def MG:Code:=cA (cA (cB (cB (LY))))
def NJ:dW:=⟨[0,177000002],[],[],[],[],[]⟩
def zh:SQ:=⟨us [d5] 10,bE,[cj,br,ck]⟩
def A7:SQ:=⟨us [] 11,bE,[cj,br,ck]⟩
def Bg:SQ:=⟨us [] 11,bE,[]⟩
def vY (q:gu) {g:Type} (j l:Int->Int->(List eG)->Int->Int->Int->(List eX)->Option g) (x:Int->Int->Option g) (h i:Int) (o:List eG) (p s u:Int) (v:List eX):Option g:=aZ (oZ o p v s u [124]) fun d=>cond d.2.1 (aZ (mQ d.1.1 d.1.2.1 d.1.2.2.1 d.1.2.2.2.1 d.1.2.2.2.2.1) fun e=>aZ (q.q177 e.1.1 e.1.2.1 e.1.2.2.1 e.1.2.2.2.1 e.1.2.2.2.2.1) fun f=>j h i f.1.1 f.1.2.1 f.1.2.2.2.1 f.1.2.2.2.2.1 f.1.2.2.1)<|l h i d.1.1 d.1.2.1 d.1.2.2.2.1 d.1.2.2.2.2.1 d.1.2.2.1
def qY (q:gu):Nat->Int->Int->(List eG)->Int->Int->Int->(List eX)->Option (A7.den⊕Bg.den)
 |0,_,_,_,_,_,_,_=>a7
 |n+1,d,e,f,g,h,i,j=>vY q (qY q n) (fun l o p s u v x=>a6 (.inl ((),((l,o,()),(),(),()),((),(p,s,u,v,()),x,())))) (fun y z=>a6 (.inr ((),((y,z,()),(),(),()),()))) d e f g h i j
def X8 (q:gu) (n:Nat) (v:zh.den):=qY q n v.2.1.1.1 v.2.1.1.2.1 v.2.2.2.1.1 v.2.2.2.1.2.1 v.2.2.2.1.2.2.1 v.2.2.2.1.2.2.2.1 v.2.2.2.2.1
noncomputable def JK (q:gu):dA:=eH NJ zh A7 Bg (.exit 0) (X8 q bD) 6
def WU (q:gu) (h:List eG) (i:Int) (j:List eX) (l o:Int):Option yf:=aZ (TE h i j l o) fun d=>cond (!d.2.1) (aZ (uX d.1.1 d.1.2.1 d.1.2.2.1 d.1.2.2.2.1 d.1.2.2.2.2.1) fun f=>a6 ((f.1.1,(f.1.2.1,(f.1.2.2.1,(f.1.2.2.2.1,(f.1.2.2.2.2.1,()))))),()))<|cond (bC 4 4) (cond (bC d.1.2.1 d.1.2.1) (cond (bC d.1.2.2.2.1 d.1.2.2.2.1) (cond (dZ (bI d.1.2.2.1 [(4,(d.1.2.1,(0,(d.1.2.2.2.1,()))))]) 32) (cond (bC 4 4) (cond (bC d.1.2.1 d.1.2.1) (cond (bC d.1.2.2.2.1 d.1.2.2.2.1) (cond ((bC 4 4)&&((bC d.1.2.1 d.1.2.1)&&((bC 0 0)&&((bC d.1.2.2.2.1 d.1.2.2.2.1)&&true)))) (aZ (oZ d.1.1 d.1.2.1 (bI d.1.2.2.1 [(4,(d.1.2.1,(0,(d.1.2.2.2.1,()))))]) (bi d.1.2.2.1) d.1.2.2.2.2.1 [33]) fun f=>aZ (q.q177 f.1.1 f.1.2.1 f.1.2.2.1 f.1.2.2.2.1 f.1.2.2.2.2.1) fun g=>aZ (qY q bD (bi d.1.2.2.1) d.1.2.2.2.1 g.1.1 g.1.2.1 g.1.2.2.2.1 g.1.2.2.2.2.1 g.1.2.2.1) fun p=>dB p (fun e=>cond (gm e.2.2.2.2.1 e.2.1.1.1) (cond (mV (bP e.2.1.1.1) e.2.2.2.2.1) (a6 ((e.2.2.2.1.1,(e.2.2.2.1.2.1,((gp e.2.2.2.2.1 (bP e.2.1.1.1) ((cO e.2.2.2.2.1 (0,(0,(0,(0,())))) (bP e.2.1.1.1)).1,((cO e.2.2.2.2.1 (0,(0,(0,(0,())))) (bP e.2.1.1.1)).2.1,(e.2.2.2.1.2.1,((cO e.2.2.2.2.1 (0,(0,(0,(0,())))) (bP e.2.1.1.1)).2.2.2.1,()))))),(e.2.1.1.2.1,(e.2.2.2.1.2.2.2.1,()))))),())) a7) a7) (fun s=>a7)) a7) a7) a7) a7) a7) a7) a7) a7
noncomputable def ZQ (q:gu):Env:=fK prog tt [] [(176,2,NJ),(148,600003,acm),(41,600003,ja)] [(176,2,JK q)] [] [(69,BF),(70,RJ),(106,zB),(175,I8),(177,adI q)]
def Ko (q:gu) {d:Type} (a:zh.den->Option d) (b:A7.den->Option d) (c:Bg.den->Option d) (v:zh.den):Option d:=vY q (fun e f g h i j l=>a ((),((e,f,()),(),(),()),((),(g,h,i,j,()),l,()))) (fun o p s u x y z=>b ((),((o,p,()),(),(),()),((),(s,u,x,y,()),z,()))) (fun A B=>c ((),((A,B,()),(),(),()),())) v.2.1.1.1 v.2.1.1.2.1 v.2.2.2.1.1 v.2.2.2.1.2.1 v.2.2.2.1.2.2.1 v.2.2.2.1.2.2.2.1 v.2.2.2.2.1
theorem Yp (q:gu):dU (ZQ q) 176 MG (JK q):=lN (Ko q) (h2:=by intros;simp only[Ko,vY,di,dm,aY,bZ,dn])
theorem aaC (q:gu):dL (ZQ q) 176 LY:=zL [MG] (aD (fM (Yp q)) aN)
theorem aeq (q:gu) (H:Zo q):eP (ZQ q):=eB aN [176] (aD ⟨f176,LY,by kernel_rfl,by kernel_rfl,aaC q⟩ aN) (hx:=(aD kX (aD BG (aD oq (aD pY (aD H.2.2.2.1 aN))))))
def JC:dW:=⟨[0,1,2],[],[],[],[],[]⟩
def ah0 (q:gu) (h:List eG) (i:Int) (j:List eX) (l o:Int):Option yf:=aZ (Qx h i j l o) fun g=>cond g.2.1 (aZ (q.q219 g.1.1 g.1.2.1 g.1.2.2.1 g.1.2.2.2.1 g.1.2.2.2.2.1) fun e=>a6 ((e.1.1,(e.1.2.1,(e.1.2.2.1,(e.1.2.2.2.1,(e.1.2.2.2.2.1,()))))),()))<|aZ (abX g.1.1 g.1.2.1 g.1.2.2.1 g.1.2.2.2.1 g.1.2.2.2.2.1) fun e=>cond e.2.1 (cond (bC 16 16) (cond (bC e.1.2.1 e.1.2.1) (cond (bC e.1.2.2.2.1 e.1.2.2.2.1) (cond (dZ (bI e.1.2.2.1 [(16,(e.1.2.1,(0,(e.1.2.2.2.1,()))))]) 32) (cond (bC 16 16) (cond (bC e.1.2.1 e.1.2.1) (cond (bC e.1.2.2.2.1 e.1.2.2.2.1) (cond ((bC 16 16)&&((bC e.1.2.1 e.1.2.1)&&((bC 0 0)&&((bC e.1.2.2.2.1 e.1.2.2.2.1)&&true)))) (aZ (q.q222 e.1.1 e.1.2.1 (bI e.1.2.2.1 [(16,(e.1.2.1,(0,(e.1.2.2.2.1,()))))]) (bi e.1.2.2.1) (bV .i64 e.1.2.2.2.2.1 1)) fun d=>cond (gm d.1.2.2.1 (bi e.1.2.2.1)) (cond (mV (bP (bi e.1.2.2.1)) d.1.2.2.1) (a6 ((d.1.1,(d.1.2.1,((gp d.1.2.2.1 (bP (bi e.1.2.2.1)) ((cO d.1.2.2.1 (0,(0,(0,(0,())))) (bP (bi e.1.2.2.1))).1,((cO d.1.2.2.1 (0,(0,(0,(0,())))) (bP (bi e.1.2.2.1))).2.1,(d.1.2.1,((cO d.1.2.2.1 (0,(0,(0,(0,())))) (bP (bi e.1.2.2.1))).2.2.2.1,()))))),(e.1.2.2.2.1,((eY .i64 d.1.2.2.2.2.1 1),()))))),())) a7) a7) a7) a7) a7) a7) a7) a7) a7) a7)<|aZ (WY e.1.1 e.1.2.1 e.1.2.2.1 e.1.2.2.2.1 e.1.2.2.2.2.1) fun d=>cond d.2.1 (cond (bC 5 5) (cond (bC d.1.2.1 d.1.2.1) (cond (bC d.1.2.2.2.1 d.1.2.2.2.1) (cond (dZ (bI d.1.2.2.1 [(5,(d.1.2.1,(0,(d.1.2.2.2.1,()))))]) 32) (cond (bC 5 5) (cond (bC d.1.2.1 d.1.2.1) (cond (bC d.1.2.2.2.1 d.1.2.2.2.1) (cond ((bC 5 5)&&((bC d.1.2.1 d.1.2.1)&&((bC 0 0)&&((bC d.1.2.2.2.1 d.1.2.2.2.1)&&true)))) (aZ (abY d.1.1 d.1.2.1 (bI d.1.2.2.1 [(5,(d.1.2.1,(0,(d.1.2.2.2.1,()))))]) (bi d.1.2.2.1) d.1.2.2.2.2.1) fun f=>cond (gm f.1.2.2.1 (bi d.1.2.2.1)) (cond (mV (bP (bi d.1.2.2.1)) f.1.2.2.1) (a6 ((f.1.1,(f.1.2.1,((gp f.1.2.2.1 (bP (bi d.1.2.2.1)) ((cO f.1.2.2.1 (0,(0,(0,(0,())))) (bP (bi d.1.2.2.1))).1,((cO f.1.2.2.1 (0,(0,(0,(0,())))) (bP (bi d.1.2.2.1))).2.1,(f.1.2.1,((cO f.1.2.2.1 (0,(0,(0,(0,())))) (bP (bi d.1.2.2.1))).2.2.2.1,()))))),(d.1.2.2.2.1,(f.1.2.2.2.2.1,()))))),())) a7) a7) a7) a7) a7) a7) a7) a7) a7) a7)<|aZ (uX d.1.1 d.1.2.1 d.1.2.2.1 d.1.2.2.2.1 d.1.2.2.2.2.1) fun f=>a6 ((f.1.1,(f.1.2.1,(f.1.2.2.1,(f.1.2.2.2.1,(f.1.2.2.2.2.1,()))))),())
noncomputable def apy (q:gu):Env:=fK prog tt [] [(177,600004,sG),(177,600006,sG),(41,600003,ja),(221,600001,JC)] [] [] [(104,akJ),(147,abg),(175,I8),(219,VW q),(220,ak2),(222,adL q),(223,ak3)]
theorem aet (q:gu) (H:Zo q):eP (apy q):=eB aN [] aN (hx:=(aD Rw (aD I5 (aD pY (aD H.2.2.2.2.2.1 (aD agh (aD H.2.2.2.2.1 (aD agi aN))))))))
def ah1 (q:gu) (j:List eG) (l:Int) (o:List eX) (p s:Int):Option yf:=aZ (Js j l o p s) fun f=>aZ (oZ f.1.1 f.1.2.1 f.1.2.2.1 f.1.2.2.2.1 f.1.2.2.2.2.1 [40]) fun g=>aZ (o9 g.1.1 g.1.2.1 g.1.2.2.1 g.1.2.2.2.1 g.1.2.2.2.2.1 [41]) fun h=>aZ (mQ h.1.1 h.1.2.1 h.1.2.2.1 h.1.2.2.2.1 h.1.2.2.2.2.1) fun i=>aZ (Qx i.1.1 i.1.2.1 i.1.2.2.1 i.1.2.2.2.1 i.1.2.2.2.2.1) fun d=>cond d.2.1 (aZ (q.q219 d.1.1 d.1.2.1 d.1.2.2.1 d.1.2.2.2.1 d.1.2.2.2.2.1) fun e=>a6 ((e.1.1,(e.1.2.1,(e.1.2.2.1,(e.1.2.2.2.1,(e.1.2.2.2.2.1,()))))),()))<|aZ (uX d.1.1 d.1.2.1 d.1.2.2.1 d.1.2.2.2.1 d.1.2.2.2.2.1) fun e=>a6 ((e.1.1,(e.1.2.1,(e.1.2.2.1,(e.1.2.2.2.1,(e.1.2.2.2.2.1,()))))),())
noncomputable def apz (q:gu):Env:=fK prog tt [] [] [] [] [(69,BF),(106,zB),(147,abg),(175,I8),(219,VW q),(259,VX),(260,BD)]
theorem aex (q:gu) (H:Zo q):eP (apz q):=eB aN [] aN (hx:=(aD kX (aD oq (aD I5 (aD pY (aD H.2.2.2.2.2.1 (aD CZ (aD qc aN))))))))
noncomputable def LZ:Code:=(f257.body).getD .skip
noncomputable def lJ:Code:=cA (cA (cB (cB (LZ))))
def nO:dW:=⟨[0,258000002],[],[],[],[],[]⟩
def ai3:dW:=⟨[1,2,3],[],[],[],[],[]⟩
def zi:SQ:=⟨cG,bq,dk⟩
def A8:SQ:=⟨c7,bq,dk⟩
def Bh:SQ:=⟨c7,bq,[]⟩
def rF (q:gu) {e:Type} (o p:Int->Int->Int->Int->Int->Int->(List eX)->(List eG)->Int->Int->Int->Option e) (z:Int->Int->Int->Int->Int->Int->Option e) (f g h i j l:Int) (s:List eX) (u:List eG) (v x y:Int):Option e:=aZ (xC u v s x y) fun d=>cond d.2.1 (o f g h i j l d.1.2.2.1 d.1.1 d.1.2.1 d.1.2.2.2.1 d.1.2.2.2.2.1)<|p f g h i j l d.1.2.2.1 d.1.1 d.1.2.1 d.1.2.2.2.1 d.1.2.2.2.2.1
def lM (q:gu):Nat->Int->Int->Int->Int->Int->Int->(List eX)->(List eG)->Int->Int->Int->Option (A8.den⊕Bh.den)
 |0,_,_,_,_,_,_,_,_,_,_,_=>a7
 |n+1,d,e,f,g,h,i,j,l,o,p,s=>rF q (lM q n) (fun u v x y z A B D E G I=>a6 (.inl ((),((u,v,()),(x,y,()),(z,A,()),(),()),((),(),B,(D,E,G,I,()),())))) (fun J K L M N O=>a6 (.inr ((),((J,K,()),(L,M,()),(N,O,()),(),()),()))) d e f g h i j l o p s
def X9 (q:gu) (n:Nat) (v:zi.den):=bl (lM q n) v
noncomputable def AC (q:gu):dA:=eH nO zi A8 Bh (.exit 0) (X9 q bD) 6
def sK:SQ:=⟨cG,bq,dq⟩
def wI:SQ:=⟨c7,bq,dq⟩
def wO:SQ:=⟨c7,bq,[]⟩
def mY (q:gu) {e:Type} (o p:Int->Int->Int->Int->Int->Int->(List eX)->(List eG)->Int->Int->Int->Option e) (z:Int->Int->Int->Int->Int->Int->Option e) (f g h i j l:Int) (s:List eX) (u:List eG) (v x y:Int):Option e:=aZ (xC u v s x y) fun d=>cond d.2.1 (o f g h i j l d.1.2.2.1 d.1.1 d.1.2.1 d.1.2.2.2.1 d.1.2.2.2.2.1)<|p f g h i j l d.1.2.2.1 d.1.1 d.1.2.1 d.1.2.2.2.1 d.1.2.2.2.2.1
def jL (q:gu):Nat->Int->Int->Int->Int->Int->Int->(List eX)->(List eG)->Int->Int->Int->Option (wI.den⊕wO.den)
 |0,_,_,_,_,_,_,_,_,_,_,_=>a7
 |n+1,d,e,f,g,h,i,j,l,o,p,s=>mY q (jL q n) (fun u v x y z A B D E G I=>a6 (.inl ((),((u,v,()),(x,y,()),(z,A,()),(),()),((),(),B,(D,E,G,I,()),())))) (fun J K L M N O=>a6 (.inr ((),((J,K,()),(L,M,()),(N,O,()),(),()),()))) d e f g h i j l o p s
def PH (q:gu) (n:Nat) (v:sK.den):=bl (jL q n) v
noncomputable def wC (q:gu):dA:=eH nO sK wI wO (.exit 0) (PH q bD) 12
def sN:SQ:=⟨cG,bq,dr⟩
def wJ:SQ:=⟨c7,bq,dr⟩
def wP:SQ:=⟨c7,bq,[]⟩
def mZ (q:gu) {e:Type} (o p:Int->Int->Int->Int->Int->Int->(List eX)->(List eG)->Int->Int->Int->Option e) (z:Int->Int->Int->Int->Int->Int->Option e) (f g h i j l:Int) (s:List eX) (u:List eG) (v x y:Int):Option e:=aZ (xC u v s x y) fun d=>cond d.2.1 (o f g h i j l d.1.2.2.1 d.1.1 d.1.2.1 d.1.2.2.2.1 d.1.2.2.2.2.1)<|p f g h i j l d.1.2.2.1 d.1.1 d.1.2.1 d.1.2.2.2.1 d.1.2.2.2.2.1
def jM (q:gu):Nat->Int->Int->Int->Int->Int->Int->(List eX)->(List eG)->Int->Int->Int->Option (wJ.den⊕wP.den)
 |0,_,_,_,_,_,_,_,_,_,_,_=>a7
 |n+1,d,e,f,g,h,i,j,l,o,p,s=>mZ q (jM q n) (fun u v x y z A B D E G I=>a6 (.inl ((),((u,v,()),(x,y,()),(z,A,()),(),()),((),(),B,(D,E,G,I,()),())))) (fun J K L M N O=>a6 (.inr ((),((J,K,()),(L,M,()),(N,O,()),(),()),()))) d e f g h i j l o p s
def PK (q:gu) (n:Nat) (v:sN.den):=bl (jM q n) v
noncomputable def wE (q:gu):dA:=eH nO sN wJ wP (.exit 0) (PK q bD) 18
def sO:SQ:=⟨cG,bq,dt⟩
def wK:SQ:=⟨c7,bq,dt⟩
def wQ:SQ:=⟨c7,bq,[]⟩
def ni (q:gu) {e:Type} (o p:Int->Int->Int->Int->Int->Int->(List eX)->(List eG)->Int->Int->Int->Option e) (z:Int->Int->Int->Int->Int->Int->Option e) (f g h i j l:Int) (s:List eX) (u:List eG) (v x y:Int):Option e:=aZ (xC u v s x y) fun d=>cond d.2.1 (o f g h i j l d.1.2.2.1 d.1.1 d.1.2.1 d.1.2.2.2.1 d.1.2.2.2.2.1)<|p f g h i j l d.1.2.2.1 d.1.1 d.1.2.1 d.1.2.2.2.1 d.1.2.2.2.2.1
def jO (q:gu):Nat->Int->Int->Int->Int->Int->Int->(List eX)->(List eG)->Int->Int->Int->Option (wK.den⊕wQ.den)
 |0,_,_,_,_,_,_,_,_,_,_,_=>a7
 |n+1,d,e,f,g,h,i,j,l,o,p,s=>ni q (jO q n) (fun u v x y z A B D E G I=>a6 (.inl ((),((u,v,()),(x,y,()),(z,A,()),(),()),((),(),B,(D,E,G,I,()),())))) (fun J K L M N O=>a6 (.inr ((),((J,K,()),(L,M,()),(N,O,()),(),()),()))) d e f g h i j l o p s
def PM (q:gu) (n:Nat) (v:sO.den):=bl (jO q n) v
noncomputable def wF (q:gu):dA:=eH nO sO wK wQ (.exit 0) (PM q bD) 24
def sQ:SQ:=⟨cG,bq,du⟩
def wL:SQ:=⟨c7,bq,du⟩
def wR:SQ:=⟨c7,bq,[]⟩
def ny (q:gu) {e:Type} (o p:Int->Int->Int->Int->Int->Int->(List eX)->(List eG)->Int->Int->Int->Option e) (z:Int->Int->Int->Int->Int->Int->Option e) (f g h i j l:Int) (s:List eX) (u:List eG) (v x y:Int):Option e:=aZ (xC u v s x y) fun d=>cond d.2.1 (o f g h i j l d.1.2.2.1 d.1.1 d.1.2.1 d.1.2.2.2.1 d.1.2.2.2.2.1)<|p f g h i j l d.1.2.2.1 d.1.1 d.1.2.1 d.1.2.2.2.1 d.1.2.2.2.2.1
def jP (q:gu):Nat->Int->Int->Int->Int->Int->Int->(List eX)->(List eG)->Int->Int->Int->Option (wL.den⊕wR.den)
 |0,_,_,_,_,_,_,_,_,_,_,_=>a7
 |n+1,d,e,f,g,h,i,j,l,o,p,s=>ny q (jP q n) (fun u v x y z A B D E G I=>a6 (.inl ((),((u,v,()),(x,y,()),(z,A,()),(),()),((),(),B,(D,E,G,I,()),())))) (fun J K L M N O=>a6 (.inr ((),((J,K,()),(L,M,()),(N,O,()),(),()),()))) d e f g h i j l o p s
def PN (q:gu) (n:Nat) (v:sQ.den):=bl (jP q n) v
noncomputable def wG (q:gu):dA:=eH nO sQ wL wR (.exit 0) (PN q bD) 30
def sS:SQ:=⟨cG,bq,dv⟩
def wM:SQ:=⟨c7,bq,dv⟩
def wS:SQ:=⟨c7,bq,[]⟩
def nz (q:gu) {e:Type} (o p:Int->Int->Int->Int->Int->Int->(List eX)->(List eG)->Int->Int->Int->Option e) (z:Int->Int->Int->Int->Int->Int->Option e) (f g h i j l:Int) (s:List eX) (u:List eG) (v x y:Int):Option e:=aZ (xC u v s x y) fun d=>cond d.2.1 (o f g h i j l d.1.2.2.1 d.1.1 d.1.2.1 d.1.2.2.2.1 d.1.2.2.2.2.1)<|p f g h i j l d.1.2.2.1 d.1.1 d.1.2.1 d.1.2.2.2.1 d.1.2.2.2.2.1
def jQ (q:gu):Nat->Int->Int->Int->Int->Int->Int->(List eX)->(List eG)->Int->Int->Int->Option (wM.den⊕wS.den)
 |0,_,_,_,_,_,_,_,_,_,_,_=>a7
 |n+1,d,e,f,g,h,i,j,l,o,p,s=>nz q (jQ q n) (fun u v x y z A B D E G I=>a6 (.inl ((),((u,v,()),(x,y,()),(z,A,()),(),()),((),(),B,(D,E,G,I,()),())))) (fun J K L M N O=>a6 (.inr ((),((J,K,()),(L,M,()),(N,O,()),(),()),()))) d e f g h i j l o p s
def PO (q:gu) (n:Nat) (v:sS.den):=bl (jQ q n) v
noncomputable def wH (q:gu):dA:=eH nO sS wM wS (.exit 0) (PO q bD) 36
def xA (q:gu) (i:List eG) (j:Int) (l:List eX) (o p:Int):Option yf:=aZ (cond (bC 9 9) (cond ((((bC 9 9)&&true)&&(((Fz oV l l)&&(((Fz RS i i)&&((bC j j)&&((bC o o)&&((bC p p)&&true))))&&true))&&true))&&true) (a6 ()) (a7)) (a7)) fun s=>aZ (uV i j l o p 0) fun d=>cond (bC d.2.1 40) (cond (bC 10 10) (cond (bC d.1.2.1 d.1.2.1) (cond (bC d.1.2.2.2.1 d.1.2.2.2.1) (cond (dZ (bI d.1.2.2.1 [(10,(d.1.2.1,(0,(d.1.2.2.2.1,()))))]) 32) (cond (bC 10 10) (cond (bC d.1.2.1 d.1.2.1) (cond (bC d.1.2.2.2.1 d.1.2.2.2.1) (cond ((bC 10 10)&&((bC d.1.2.1 d.1.2.1)&&((bC 0 0)&&((bC d.1.2.2.2.1 d.1.2.2.2.1)&&true)))) (aZ (q.q252 d.1.1 (bV .i64 d.1.2.1 1) (bI d.1.2.2.1 [(10,(d.1.2.1,(0,(d.1.2.2.2.1,()))))]) (bi d.1.2.2.1) (bV .i64 d.1.2.2.2.2.1 1)) fun f=>aZ (lM q bD (bi d.1.2.2.1) d.1.2.2.2.1 10 10 10 10 f.1.2.2.1 f.1.1 f.1.2.1 f.1.2.2.2.1 f.1.2.2.2.2.1) fun g=>dB g (fun e=>cond (gm e.2.2.2.2.1 e.2.1.1.1) (cond (mV (bP e.2.1.1.1) e.2.2.2.2.1) (a6 ((e.2.2.2.2.2.1.1,(e.2.2.2.2.2.1.2.1,((gp e.2.2.2.2.1 (bP e.2.1.1.1) ((cO e.2.2.2.2.1 (0,(0,(0,(0,())))) (bP e.2.1.1.1)).1,((cO e.2.2.2.2.1 (0,(0,(0,(0,())))) (bP e.2.1.1.1)).2.1,(e.2.2.2.2.2.1.2.1,((cO e.2.2.2.2.1 (0,(0,(0,(0,())))) (bP e.2.1.1.1)).2.2.2.1,()))))),(e.2.1.1.2.1,((eY .i64 e.2.2.2.2.2.1.2.2.2.1 1),()))))),())) a7) a7) (fun h=>a7)) a7) a7) a7) a7) a7) a7) a7) a7)<|cond (bC d.2.1 105) (cond (bC 11 11) (cond (bC d.1.2.1 d.1.2.1) (cond (bC d.1.2.2.2.1 d.1.2.2.2.1) (cond (dZ (bI d.1.2.2.1 [(11,(d.1.2.1,(0,(d.1.2.2.2.1,()))))]) 32) (cond (bC 11 11) (cond (bC d.1.2.1 d.1.2.1) (cond (bC d.1.2.2.2.1 d.1.2.2.2.1) (cond ((bC 11 11)&&((bC d.1.2.1 d.1.2.1)&&((bC 0 0)&&((bC d.1.2.2.2.1 d.1.2.2.2.1)&&true)))) (aZ (q.q253 d.1.1 (bV .i64 d.1.2.1 1) (bI d.1.2.2.1 [(11,(d.1.2.1,(0,(d.1.2.2.2.1,()))))]) (bi d.1.2.2.1) (bV .i64 d.1.2.2.2.2.1 1)) fun f=>aZ (jL q bD (bi d.1.2.2.1) d.1.2.2.2.1 11 11 11 11 f.1.2.2.1 f.1.1 f.1.2.1 f.1.2.2.2.1 f.1.2.2.2.2.1) fun g=>dB g (fun e=>cond (gm e.2.2.2.2.1 e.2.1.1.1) (cond (mV (bP e.2.1.1.1) e.2.2.2.2.1) (a6 ((e.2.2.2.2.2.1.1,(e.2.2.2.2.2.1.2.1,((gp e.2.2.2.2.1 (bP e.2.1.1.1) ((cO e.2.2.2.2.1 (0,(0,(0,(0,())))) (bP e.2.1.1.1)).1,((cO e.2.2.2.2.1 (0,(0,(0,(0,())))) (bP e.2.1.1.1)).2.1,(e.2.2.2.2.2.1.2.1,((cO e.2.2.2.2.1 (0,(0,(0,(0,())))) (bP e.2.1.1.1)).2.2.2.1,()))))),(e.2.1.1.2.1,((eY .i64 e.2.2.2.2.2.1.2.2.2.1 1),()))))),())) a7) a7) (fun h=>a7)) a7) a7) a7) a7) a7) a7) a7) a7)<|cond (bC d.2.1 119) (cond (bC 12 12) (cond (bC d.1.2.1 d.1.2.1) (cond (bC d.1.2.2.2.1 d.1.2.2.2.1) (cond (dZ (bI d.1.2.2.1 [(12,(d.1.2.1,(0,(d.1.2.2.2.1,()))))]) 32) (cond (bC 12 12) (cond (bC d.1.2.1 d.1.2.1) (cond (bC d.1.2.2.2.1 d.1.2.2.2.1) (cond ((bC 12 12)&&((bC d.1.2.1 d.1.2.1)&&((bC 0 0)&&((bC d.1.2.2.2.1 d.1.2.2.2.1)&&true)))) (aZ (q.q254 d.1.1 (bV .i64 d.1.2.1 1) (bI d.1.2.2.1 [(12,(d.1.2.1,(0,(d.1.2.2.2.1,()))))]) (bi d.1.2.2.1) (bV .i64 d.1.2.2.2.2.1 1)) fun f=>aZ (jM q bD (bi d.1.2.2.1) d.1.2.2.2.1 12 12 12 12 f.1.2.2.1 f.1.1 f.1.2.1 f.1.2.2.2.1 f.1.2.2.2.2.1) fun g=>dB g (fun e=>cond (gm e.2.2.2.2.1 e.2.1.1.1) (cond (mV (bP e.2.1.1.1) e.2.2.2.2.1) (a6 ((e.2.2.2.2.2.1.1,(e.2.2.2.2.2.1.2.1,((gp e.2.2.2.2.1 (bP e.2.1.1.1) ((cO e.2.2.2.2.1 (0,(0,(0,(0,())))) (bP e.2.1.1.1)).1,((cO e.2.2.2.2.1 (0,(0,(0,(0,())))) (bP e.2.1.1.1)).2.1,(e.2.2.2.2.2.1.2.1,((cO e.2.2.2.2.1 (0,(0,(0,(0,())))) (bP e.2.1.1.1)).2.2.2.1,()))))),(e.2.1.1.2.1,((eY .i64 e.2.2.2.2.2.1.2.2.2.1 1),()))))),())) a7) a7) (fun h=>a7)) a7) a7) a7) a7) a7) a7) a7) a7)<|cond (bC d.2.1 114) (cond (bC 13 13) (cond (bC d.1.2.1 d.1.2.1) (cond (bC d.1.2.2.2.1 d.1.2.2.2.1) (cond (dZ (bI d.1.2.2.1 [(13,(d.1.2.1,(0,(d.1.2.2.2.1,()))))]) 32) (cond (bC 13 13) (cond (bC d.1.2.1 d.1.2.1) (cond (bC d.1.2.2.2.1 d.1.2.2.2.1) (cond ((bC 13 13)&&((bC d.1.2.1 d.1.2.1)&&((bC 0 0)&&((bC d.1.2.2.2.1 d.1.2.2.2.1)&&true)))) (aZ (q.q255 d.1.1 (bV .i64 d.1.2.1 1) (bI d.1.2.2.1 [(13,(d.1.2.1,(0,(d.1.2.2.2.1,()))))]) (bi d.1.2.2.1) (bV .i64 d.1.2.2.2.2.1 1)) fun f=>aZ (jO q bD (bi d.1.2.2.1) d.1.2.2.2.1 13 13 13 13 f.1.2.2.1 f.1.1 f.1.2.1 f.1.2.2.2.1 f.1.2.2.2.2.1) fun g=>dB g (fun e=>cond (gm e.2.2.2.2.1 e.2.1.1.1) (cond (mV (bP e.2.1.1.1) e.2.2.2.2.1) (a6 ((e.2.2.2.2.2.1.1,(e.2.2.2.2.2.1.2.1,((gp e.2.2.2.2.1 (bP e.2.1.1.1) ((cO e.2.2.2.2.1 (0,(0,(0,(0,())))) (bP e.2.1.1.1)).1,((cO e.2.2.2.2.1 (0,(0,(0,(0,())))) (bP e.2.1.1.1)).2.1,(e.2.2.2.2.2.1.2.1,((cO e.2.2.2.2.1 (0,(0,(0,(0,())))) (bP e.2.1.1.1)).2.2.2.1,()))))),(e.2.1.1.2.1,((eY .i64 e.2.2.2.2.2.1.2.2.2.1 1),()))))),())) a7) a7) (fun h=>a7)) a7) a7) a7) a7) a7) a7) a7) a7)<|cond (bC d.2.1 99) (cond (bC 14 14) (cond (bC d.1.2.1 d.1.2.1) (cond (bC d.1.2.2.2.1 d.1.2.2.2.1) (cond (dZ (bI d.1.2.2.1 [(14,(d.1.2.1,(0,(d.1.2.2.2.1,()))))]) 32) (cond (bC 14 14) (cond (bC d.1.2.1 d.1.2.1) (cond (bC d.1.2.2.2.1 d.1.2.2.2.1) (cond ((bC 14 14)&&((bC d.1.2.1 d.1.2.1)&&((bC 0 0)&&((bC d.1.2.2.2.1 d.1.2.2.2.1)&&true)))) (aZ (q.q256 d.1.1 (bV .i64 d.1.2.1 1) (bI d.1.2.2.1 [(14,(d.1.2.1,(0,(d.1.2.2.2.1,()))))]) (bi d.1.2.2.1) (bV .i64 d.1.2.2.2.2.1 1)) fun f=>aZ (jP q bD (bi d.1.2.2.1) d.1.2.2.2.1 14 14 14 14 f.1.2.2.1 f.1.1 f.1.2.1 f.1.2.2.2.1 f.1.2.2.2.2.1) fun g=>dB g (fun e=>cond (gm e.2.2.2.2.1 e.2.1.1.1) (cond (mV (bP e.2.1.1.1) e.2.2.2.2.1) (a6 ((e.2.2.2.2.2.1.1,(e.2.2.2.2.2.1.2.1,((gp e.2.2.2.2.1 (bP e.2.1.1.1) ((cO e.2.2.2.2.1 (0,(0,(0,(0,())))) (bP e.2.1.1.1)).1,((cO e.2.2.2.2.1 (0,(0,(0,(0,())))) (bP e.2.1.1.1)).2.1,(e.2.2.2.2.2.1.2.1,((cO e.2.2.2.2.1 (0,(0,(0,(0,())))) (bP e.2.1.1.1)).2.2.2.1,()))))),(e.2.1.1.2.1,((eY .i64 e.2.2.2.2.2.1.2.2.2.1 1),()))))),())) a7) a7) (fun h=>a7)) a7) a7) a7) a7) a7) a7) a7) a7)<|cond (bC 9 9) (cond (bC d.1.2.1 d.1.2.1) (cond (bC d.1.2.2.2.1 d.1.2.2.2.1) (cond (dZ (bI d.1.2.2.1 [(9,(d.1.2.1,(0,(d.1.2.2.2.1,()))))]) 32) (cond (bC 9 9) (cond (bC d.1.2.1 d.1.2.1) (cond (bC d.1.2.2.2.1 d.1.2.2.2.1) (cond ((bC 9 9)&&((bC d.1.2.1 d.1.2.1)&&((bC 0 0)&&((bC d.1.2.2.2.1 d.1.2.2.2.1)&&true)))) (aZ (q.q251 d.1.1 (bV .i64 d.1.2.1 1) (bI d.1.2.2.1 [(9,(d.1.2.1,(0,(d.1.2.2.2.1,()))))]) (bi d.1.2.2.1) (bV .i64 d.1.2.2.2.2.1 1)) fun f=>aZ (jQ q bD (bi d.1.2.2.1) d.1.2.2.2.1 9 9 9 9 f.1.2.2.1 f.1.1 f.1.2.1 f.1.2.2.2.1 f.1.2.2.2.2.1) fun g=>dB g (fun e=>cond (gm e.2.2.2.2.1 e.2.1.1.1) (cond (mV (bP e.2.1.1.1) e.2.2.2.2.1) (a6 ((e.2.2.2.2.2.1.1,(e.2.2.2.2.2.1.2.1,((gp e.2.2.2.2.1 (bP e.2.1.1.1) ((cO e.2.2.2.2.1 (0,(0,(0,(0,())))) (bP e.2.1.1.1)).1,((cO e.2.2.2.2.1 (0,(0,(0,(0,())))) (bP e.2.1.1.1)).2.1,(e.2.2.2.2.2.1.2.1,((cO e.2.2.2.2.1 (0,(0,(0,(0,())))) (bP e.2.1.1.1)).2.2.2.1,()))))),(e.2.1.1.2.1,((eY .i64 e.2.2.2.2.2.1.2.2.2.1 1),()))))),())) a7) a7) (fun h=>a7)) a7) a7) a7) a7) a7) a7) a7) a7
noncomputable def yD (q:gu):Env:=fK prog tt [] [(257,2,nO),(219,600013,ai3),(221,600001,JC),(41,600003,ja),(257,600001,yP)] [(257,2,ku (AC q) (ku (wC q) (ku (wE q) (ku (wF q) (ku (wG q) ((wH q)))))))] [] [(103,abe),(251,adO q),(252,adP q),(253,adQ q),(254,adR q),(255,adS q),(256,adT q),(258,abh)]
def Kq (q:gu) {d:Type} (a:zi.den->Option d) (b:A8.den->Option d) (c:Bh.den->Option d) (v:zi.den):Option d:=bl (rF q (bj a) (bj b) (bk c)) v
theorem Yq (q:gu):dU (yD q) 257 lJ (AC q):=lN (Kq q) (h2:=by intros;simp only[Kq,bj,bk,bl,rF,di,dm,aY,bZ,dn])
def DI (q:gu) {d:Type} (a:sK.den->Option d) (b:wI.den->Option d) (c:wO.den->Option d) (v:sK.den):Option d:=bl (mY q (bj a) (bj b) (bk c)) v
theorem PS (q:gu):dU (yD q) 257 lJ (wC q):=lN (DI q) (h2:=by intros;simp only[DI,bj,bk,bl,mY,di,dm,aY,bZ,dn])
def DJ (q:gu) {d:Type} (a:sN.den->Option d) (b:wJ.den->Option d) (c:wP.den->Option d) (v:sN.den):Option d:=bl (mZ q (bj a) (bj b) (bk c)) v
theorem PT (q:gu):dU (yD q) 257 lJ (wE q):=lN (DJ q) (h2:=by intros;simp only[DJ,bj,bk,bl,mZ,di,dm,aY,bZ,dn])
def DK (q:gu) {d:Type} (a:sO.den->Option d) (b:wK.den->Option d) (c:wQ.den->Option d) (v:sO.den):Option d:=bl (ni q (bj a) (bj b) (bk c)) v
theorem PU (q:gu):dU (yD q) 257 lJ (wF q):=lN (DK q) (h2:=by intros;simp only[DK,bj,bk,bl,ni,di,dm,aY,bZ,dn])
def DL (q:gu) {d:Type} (a:sQ.den->Option d) (b:wL.den->Option d) (c:wR.den->Option d) (v:sQ.den):Option d:=bl (ny q (bj a) (bj b) (bk c)) v
theorem PV (q:gu):dU (yD q) 257 lJ (wG q):=lN (DL q) (h2:=by intros;simp only[DL,bj,bk,bl,ny,di,dm,aY,bZ,dn])
def DN (q:gu) {d:Type} (a:sS.den->Option d) (b:wM.den->Option d) (c:wS.den->Option d) (v:sS.den):Option d:=bl (nz q (bj a) (bj b) (bk c)) v
theorem PW (q:gu):dU (yD q) 257 lJ (wH q):=lN (DN q) (h2:=by intros;simp only[DN,bj,bk,bl,nz,di,dm,aY,bZ,dn])
theorem aaD (q:gu):dL (yD q) 257 LZ:=zL [lJ] (aD (fun L h=>by rw[show((yD q)).lp 257 (bM lJ)=a6 (ku (AC q) (ku (wC q) (ku (wE q) (ku (wF q) (ku (wG q) ((wH q))))))) by kernel_rfl]at h;cases h;exact nV (Yq q) (nV (PS q) (nV (PT q) (nV (PU q) (nV (PV q) ((PW q))))))) aN)
theorem aew (q:gu) (H:Zo q):eP (yD q):=eB aN [257] (aD ⟨f257,LZ,by kernel_rfl,by kernel_rfl,aaD q⟩ aN) (hx:=(aD pX (aD H.2.2.2.2.2.2.2.1 (aD H.2.2.2.2.2.2.2.2.1 (aD H.2.2.2.2.2.2.2.2.2.1 (aD H.2.2.2.2.2.2.2.2.2.2.1 (aD H.2.2.2.2.2.2.2.2.2.2.2.1 (aD H.2.2.2.2.2.2.2.2.2.2.2.2.1 (aD RI aN)))))))))
def aib (q:gu) (g:List eG) (h:Int) (i:List eX) (j l:Int):Option yf:=aZ (mQ g h i j l) fun f=>aZ (TE f.1.1 f.1.2.1 f.1.2.2.1 f.1.2.2.2.1 f.1.2.2.2.2.1) fun d=>cond d.2.1 (cond (bC 2 2) (cond (bC d.1.2.1 d.1.2.1) (cond (bC d.1.2.2.2.1 d.1.2.2.2.1) (cond (dZ (bI d.1.2.2.1 [(2,(d.1.2.1,(0,(d.1.2.2.2.1,()))))]) 32) (cond (bC 2 2) (cond (bC d.1.2.1 d.1.2.1) (cond (bC d.1.2.2.2.1 d.1.2.2.2.1) (cond ((bC 2 2)&&((bC d.1.2.1 d.1.2.1)&&((bC 0 0)&&((bC d.1.2.2.2.1 d.1.2.2.2.1)&&true)))) (aZ (q.q71 d.1.1 d.1.2.1 (bI d.1.2.2.1 [(2,(d.1.2.1,(0,(d.1.2.2.2.1,()))))]) (bi d.1.2.2.1) d.1.2.2.2.2.1) fun e=>cond (gm e.1.2.2.1 (bi d.1.2.2.1)) (cond (mV (bP (bi d.1.2.2.1)) e.1.2.2.1) (a6 ((e.1.1,(e.1.2.1,((gp e.1.2.2.1 (bP (bi d.1.2.2.1)) ((cO e.1.2.2.1 (0,(0,(0,(0,())))) (bP (bi d.1.2.2.1))).1,((cO e.1.2.2.1 (0,(0,(0,(0,())))) (bP (bi d.1.2.2.1))).2.1,(e.1.2.1,((cO e.1.2.2.1 (0,(0,(0,(0,())))) (bP (bi d.1.2.2.1))).2.2.2.1,()))))),(d.1.2.2.2.1,(e.1.2.2.2.2.1,()))))),())) a7) a7) a7) a7) a7) a7) a7) a7) a7) a7)<|aZ (uX d.1.1 d.1.2.1 d.1.2.2.1 d.1.2.2.2.1 d.1.2.2.2.2.1) fun e=>a6 ((e.1.1,(e.1.2.1,(e.1.2.2.1,(e.1.2.2.2.1,(e.1.2.2.2.2.1,()))))),())
noncomputable def apE (q:gu):Env:=fK prog tt [] [(268,600002,sG),(41,600003,ja)] [] [] [(70,RJ),(71,abj q),(106,zB),(175,I8)]
theorem aeG (q:gu) (H:Zo q):eP (apE q):=eB aN [] aN (hx:=(aD BG (aD H.1 (aD oq (aD pY aN)))))
def ah6 (q:gu) (f:List eG) (g:Int) (h:List eX) (i j:Int):Option yf:=aZ (q.q268 f g h i j) fun d=>aZ (o9 d.1.1 d.1.2.1 d.1.2.2.1 d.1.2.2.2.1 d.1.2.2.2.2.1 [125]) fun e=>a6 ((e.1.1,(e.1.2.1,(e.1.2.2.1,(e.1.2.2.2.1,(e.1.2.2.2.2.1,()))))),())
noncomputable def apB (q:gu):Env:=fK prog tt [] [] [] [] [(260,BD),(268,Dc q)]
theorem aeA (q:gu) (H:Zo q):eP (apB q):=eB aN [] aN (hx:=(aD qc (aD H.2.2.2.2.2.2.1 aN)))
def ah7 (q:gu) (f:List eG) (g:Int) (h:List eX) (i j:Int):Option yf:=aZ (q.q268 f g h i j) fun d=>aZ (o9 d.1.1 d.1.2.1 d.1.2.2.1 d.1.2.2.2.1 d.1.2.2.2.2.1 [41]) fun e=>a6 ((e.1.1,(e.1.2.1,(e.1.2.2.1,(e.1.2.2.2.1,(e.1.2.2.2.2.1,()))))),())
noncomputable def apC (q:gu):Env:=fK prog tt [] [] [] [] [(260,BD),(268,Dc q)]
theorem aeB (q:gu) (H:Zo q):eP (apC q):=eB aN [] aN (hx:=(aD qc (aD H.2.2.2.2.2.2.1 aN)))
noncomputable def apn:Code:=(f253.body).getD .skip
noncomputable def ag7:Code:=cA (cA (cA (cB (cB (cB (apn))))))
def aiX:dW:=⟨[0,100003],[],[0],[],[],[]⟩
def UJ:SQ:=⟨us bs 21,cY,cU⟩
def U4:SQ:=⟨us bs 21,cY,cU⟩
def Vq:SQ:=⟨us [] 22,cY,[]⟩
def Lp (q:gu) {h:Type} (i j:(List eG)->Int->Int->Int->(List eX)->Option h) (v:Option h) (l:List eG) (o p s:Int) (u:List eX):Option h:=aZ (oZ l o u p s [101]) fun d=>cond d.2.1 (aZ (q.q268 d.1.1 d.1.2.1 d.1.2.2.1 d.1.2.2.2.1 d.1.2.2.2.2.1) fun e=>aZ (o9 e.1.1 e.1.2.1 e.1.2.2.1 e.1.2.2.2.1 e.1.2.2.2.2.1 [116]) fun f=>aZ (q.q268 f.1.1 f.1.2.1 f.1.2.2.1 f.1.2.2.2.1 f.1.2.2.2.2.1) fun g=>i g.1.1 g.1.2.1 g.1.2.2.2.1 g.1.2.2.2.2.1 g.1.2.2.1)<|j d.1.1 d.1.2.1 d.1.2.2.2.1 d.1.2.2.2.2.1 d.1.2.2.1
def Gv (q:gu):Nat->(List eG)->Int->Int->Int->(List eX)->Option (U4.den⊕Vq.den)
 |0,_,_,_,_,_=>a7
 |n+1,d,e,f,g,h=>Lp q (Gv q n) (fun i j l o p=>a6 (.inl ((),((),()),((i,j,l,o,()),p,())))) (a6 (.inr ((),((),()),()))) d e f g h
def am8 (q:gu) (n:Nat) (v:UJ.den):=bh (Gv q n) v
noncomputable def acE (q:gu):dA:=eH aiX UJ U4 Vq (.exit 0) (am8 q bD) 6
def ah8 (q:gu) (l:List eG) (o:Int) (p:List eX) (s u:Int):Option yf:=aZ (q.q268 l o p s u) fun f=>aZ (o9 f.1.1 f.1.2.1 f.1.2.2.1 f.1.2.2.2.1 f.1.2.2.2.2.1 [116]) fun g=>aZ (q.q268 g.1.1 g.1.2.1 g.1.2.2.1 g.1.2.2.2.1 g.1.2.2.2.2.1) fun h=>aZ (Gv q bD h.1.1 h.1.2.1 h.1.2.2.2.1 h.1.2.2.2.2.1 h.1.2.2.1) fun v=>dB v (fun i=>aZ (oZ i.2.2.1.1 i.2.2.1.2.1 i.2.2.2.1 i.2.2.1.2.2.1 i.2.2.1.2.2.2.1 [108]) fun d=>cond d.2.1 (aZ (q.q268 d.1.1 d.1.2.1 d.1.2.2.1 d.1.2.2.2.1 d.1.2.2.2.2.1) fun e=>aZ (o9 e.1.1 e.1.2.1 e.1.2.2.1 e.1.2.2.2.1 e.1.2.2.2.2.1 [102]) fun j=>a6 ((j.1.1,(j.1.2.1,(j.1.2.2.1,(j.1.2.2.2.1,(j.1.2.2.2.2.1,()))))),()))<|aZ (o9 d.1.1 d.1.2.1 d.1.2.2.1 d.1.2.2.2.1 d.1.2.2.2.2.1 [102]) fun e=>a6 ((e.1.1,(e.1.2.1,(e.1.2.2.1,(e.1.2.2.2.1,(e.1.2.2.2.2.1,()))))),())) (fun x=>a7)
noncomputable def ZV (q:gu):Env:=fK prog tt [] [(253,3,aiX)] [(253,3,acE q)] [] [(69,BF),(260,BD),(268,Dc q)]
def adp (q:gu) {d:Type} (a:UJ.den->Option d) (b:U4.den->Option d) (c:Vq.den->Option d) (v:UJ.den):Option d:=bh (Lp q (be a) (be b) (c ((),((),()),()))) v
theorem anB (q:gu):dU (ZV q) 253 ag7 (acE q):=lN (adp q) (h2:=by intros;simp only[adp,be,bh,Lp,di,dm,aY,bZ,dn])
theorem aqt (q:gu):dL (ZV q) 253 apn:=zL [ag7] (aD (fM (anB q)) aN)
theorem aeC (q:gu) (H:Zo q):eP (ZV q):=eB aN [253] (aD ⟨f253,apn,by kernel_rfl,by kernel_rfl,aqt q⟩ aN) (hx:=(aD kX (aD qc (aD H.2.2.2.2.2.2.1 aN))))
def aom (q:gu) (f:List eG) (g:Int) (h:List eX) (i j:Int):Option yf:=aZ (q.q268 f g h i j) fun d=>aZ (q.q269 d.1.1 d.1.2.1 d.1.2.2.1 d.1.2.2.2.1 d.1.2.2.2.2.1) fun e=>a6 ((e.1.1,(e.1.2.1,(e.1.2.2.1,(e.1.2.2.2.1,(e.1.2.2.2.2.1,()))))),())
noncomputable def apD (q:gu):Env:=fK prog tt [] [] [] [] [(268,Dc q),(269,VZ q)]
theorem aeD (q:gu) (H:Zo q):eP (apD q):=eB aN [] aN (hx:=(aD H.2.2.2.2.2.2.1 (aD H.2.2.2.2.2.2.2.2.2.2.2.2.2.2 aN)))
noncomputable def apo:Code:=(f255.body).getD .skip
noncomputable def ag8:Code:=cA (cA (cA (cA (cB (cB (cB (cB (cA (cB (apo))))))))))
def aiY:dW:=⟨[0,100007],[],[0],[],[],[]⟩
def UK:SQ:=⟨us bs 47,cY,cU⟩
def U5:SQ:=⟨us bs 47,cY,cU⟩
def Vr:SQ:=⟨us [] 48,cY,[]⟩
def Lr (q:gu) {f:Type} (g h:(List eG)->Int->Int->Int->(List eX)->Option f) (s:Option f) (i:List eG) (j l o:Int) (p:List eX):Option f:=aZ (Jt i j p l o) fun d=>cond d.2.1 (aZ (Np d.1.1 d.1.2.1 d.1.2.2.1 d.1.2.2.2.1 d.1.2.2.2.2.1 7) fun e=>g e.1.1 e.1.2.1 e.1.2.2.2.1 e.1.2.2.2.2.1 e.1.2.2.1)<|h d.1.1 d.1.2.1 d.1.2.2.2.1 d.1.2.2.2.2.1 d.1.2.2.1
def Cf (q:gu):Nat->(List eG)->Int->Int->Int->(List eX)->Option (U5.den⊕Vr.den)
 |0,_,_,_,_,_=>a7
 |n+1,d,e,f,g,h=>Lr q (Cf q n) (fun i j l o p=>a6 (.inl ((),((),()),((i,j,l,o,()),p,())))) (a6 (.inr ((),((),()),()))) d e f g h
def am9 (q:gu) (n:Nat) (v:UK.den):=bh (Cf q n) v
noncomputable def acF (q:gu):dA:=eH aiY UK U5 Vr (.exit 0) (am9 q bD) 6
def FP (q:gu) (d:(taE×o8)):Option yf:=aZ (q.q269 d.1.1 d.1.2.1 d.1.2.2.1 d.1.2.2.2.1 d.1.2.2.2.2.1) fun e=>a6 ((e.1.1,(e.1.2.1,(e.1.2.2.1,(e.1.2.2.2.1,(e.1.2.2.2.2.1,()))))),())
def KA (i:yf) (q:gu):Option yf:=aZ (oZ i.1.1 i.1.2.1 i.1.2.2.1 i.1.2.2.2.1 i.1.2.2.2.2.1 [59]) fun d=>cond d.2.1 (aZ (mQ d.1.1 d.1.2.1 d.1.2.2.1 d.1.2.2.2.1 d.1.2.2.2.2.1) fun f=>FP q f)<|aZ (mQ d.1.1 d.1.2.1 d.1.2.2.1 d.1.2.2.2.1 d.1.2.2.2.2.1) fun f=>aZ (oZ f.1.1 f.1.2.1 f.1.2.2.1 f.1.2.2.2.1 f.1.2.2.2.2.1 [107]) fun g=>cond g.2.1 (aZ (Cf q bD g.1.1 g.1.2.1 g.1.2.2.2.1 g.1.2.2.2.2.1 g.1.2.2.1) fun p=>dB p (fun j=>aZ (oZ j.2.2.1.1 j.2.2.1.2.1 j.2.2.2.1 j.2.2.1.2.2.1 j.2.2.1.2.2.2.1 [59]) fun h=>aZ (mQ h.1.1 h.1.2.1 h.1.2.2.1 h.1.2.2.2.1 h.1.2.2.2.2.1) fun e=>cond (!e.2.1) (cond (!h.2.1) (aZ (uX e.1.1 e.1.2.1 e.1.2.2.1 e.1.2.2.2.1 e.1.2.2.2.2.1) fun l=>aZ (q.q269 l.1.1 l.1.2.1 l.1.2.2.1 l.1.2.2.2.1 l.1.2.2.2.2.1) fun o=>a6 ((o.1.1,(o.1.2.1,(o.1.2.2.1,(o.1.2.2.2.1,(o.1.2.2.2.2.1,()))))),()))<|FP q e)<|FP q e) (fun b7=>a7))<|FP q g
def ah9 (q:gu) (g:List eG) (h:Int) (i:List eX) (j l:Int):Option yf:=aZ (Jt g h i j l) fun d=>cond d.2.1 (cond (gm d.1.1 d.1.2.1) (aZ (aac (bT d.1.1 (0,([],(0,(0,())))) d.1.2.1).2.1) fun e=>cond e.1 (aZ (Np d.1.1 d.1.2.1 d.1.2.2.1 d.1.2.2.2.1 d.1.2.2.2.2.1 7) fun f=>KA f q)<|aZ (uX d.1.1 d.1.2.1 d.1.2.2.1 d.1.2.2.2.1 d.1.2.2.2.2.1) fun f=>KA f q) a7)<|aZ (uX d.1.1 d.1.2.1 d.1.2.2.1 d.1.2.2.2.1 d.1.2.2.2.2.1) fun e=>KA e q
noncomputable def ZW (q:gu):Env:=fK prog tt [(60,alg)] [(255,7,aiY)] [(255,7,acF q)] [] [(69,BF),(72,adW),(106,zB),(175,I8),(261,VY),(269,VZ q)]
def adq (q:gu) {d:Type} (a:UK.den->Option d) (b:U5.den->Option d) (c:Vr.den->Option d) (v:UK.den):Option d:=bh (Lr q (be a) (be b) (c ((),((),()),()))) v
theorem anC (q:gu):dU (ZW q) 255 ag8 (acF q):=lN (adq q) (h2:=by intros;simp only[adq,be,bh,Lr,di,dm,aY,bZ,dn])
theorem aqu (q:gu):dL (ZW q) 255 apo:=zL [ag8] (aD (fM (anC q)) aN)
theorem aeE (q:gu) (H:Zo q):eP (ZW q):=eB (aD OZ aN) [255] (aD ⟨f255,apo,by kernel_rfl,by kernel_rfl,aqu q⟩ aN) (hx:=(aD kX (aD Hf (aD oq (aD pY (aD C9 (aD H.2.2.2.2.2.2.2.2.2.2.2.2.2.2 aN)))))))
noncomputable def apq:Code:=(f256.body).getD .skip
noncomputable def ag9:Code:=cA (cA (cA (cB (cB (cB (cB (cB (cA (apq)))))))))
def aiZ:dW:=⟨[0,100004],[],[0],[],[],[]⟩
def UL:SQ:=⟨us bs 31,cY,cU⟩
def U6:SQ:=⟨us bs 31,cY,cU⟩
def Vs:SQ:=⟨us [] 32,cY,[]⟩
def Ls (q:gu) {l:Type} (o j:(List eG)->Int->Int->Int->(List eX)->Option l) (y:Option l) (p:List eG) (s u v:Int) (x:List eX):Option l:=aZ (Qv p s x u v [40]) fun e=>cond e.2.1 (cond (bC 15 15) (cond (bC e.1.2.1 e.1.2.1) (cond (bC e.1.2.2.2.1 e.1.2.2.2.1) (cond (dZ (bI e.1.2.2.1 [(15,(e.1.2.1,(0,(e.1.2.2.2.1,()))))]) 32) (cond (bC 15 15) (cond (bC e.1.2.1 e.1.2.1) (cond (bC e.1.2.2.2.1 e.1.2.2.2.1) (cond ((bC 15 15)&&((bC e.1.2.1 e.1.2.1)&&((bC 0 0)&&((bC e.1.2.2.2.1 e.1.2.2.2.1)&&true)))) (aZ (q.q270 e.1.1 e.1.2.1 (bI e.1.2.2.1 [(15,(e.1.2.1,(0,(e.1.2.2.2.1,()))))]) (bi e.1.2.2.1) e.1.2.2.2.2.1) fun f=>cond (gm f.1.2.2.1 (bi e.1.2.2.1)) (cond (mV (bP (bi e.1.2.2.1)) f.1.2.2.1) (aZ (oZ f.1.1 f.1.2.1 (gp f.1.2.2.1 (bP (bi e.1.2.2.1)) ((cO f.1.2.2.1 (0,(0,(0,(0,())))) (bP (bi e.1.2.2.1))).1,((cO f.1.2.2.1 (0,(0,(0,(0,())))) (bP (bi e.1.2.2.1))).2.1,(f.1.2.1,((cO f.1.2.2.1 (0,(0,(0,(0,())))) (bP (bi e.1.2.2.1))).2.2.2.1,()))))) e.1.2.2.2.1 f.1.2.2.2.2.1 [121]) fun d=>cond (!d.2.1) (j d.1.1 d.1.2.1 d.1.2.2.2.1 d.1.2.2.2.2.1 d.1.2.2.1)<|aZ (mQ d.1.1 d.1.2.1 d.1.2.2.1 d.1.2.2.2.1 d.1.2.2.2.2.1) fun g=>o g.1.1 g.1.2.1 g.1.2.2.2.1 g.1.2.2.2.2.1 g.1.2.2.1) a7) a7) a7) a7) a7) a7) a7) a7) a7) a7)<|aZ (Jt e.1.1 e.1.2.1 e.1.2.2.1 e.1.2.2.2.1 e.1.2.2.2.2.1) fun f=>cond f.2.1 (aZ (uV f.1.1 f.1.2.1 f.1.2.2.1 f.1.2.2.2.1 f.1.2.2.2.2.1 0) fun d=>cond (!(bC d.2.1 122)) (cond (bC 15 15) (cond (bC d.1.2.1 d.1.2.1) (cond (bC d.1.2.2.2.1 d.1.2.2.2.1) (cond (dZ (bI d.1.2.2.1 [(15,(d.1.2.1,(0,(d.1.2.2.2.1,()))))]) 32) (cond (bC 15 15) (cond (bC d.1.2.1 d.1.2.1) (cond (bC d.1.2.2.2.1 d.1.2.2.2.1) (cond ((bC 15 15)&&((bC d.1.2.1 d.1.2.1)&&((bC 0 0)&&((bC d.1.2.2.2.1 d.1.2.2.2.1)&&true)))) (aZ (q.q270 d.1.1 d.1.2.1 (bI d.1.2.2.1 [(15,(d.1.2.1,(0,(d.1.2.2.2.1,()))))]) (bi d.1.2.2.1) d.1.2.2.2.2.1) fun g=>cond (gm g.1.2.2.1 (bi d.1.2.2.1)) (cond (mV (bP (bi d.1.2.2.1)) g.1.2.2.1) (aZ (oZ g.1.1 g.1.2.1 (gp g.1.2.2.1 (bP (bi d.1.2.2.1)) ((cO g.1.2.2.1 (0,(0,(0,(0,())))) (bP (bi d.1.2.2.1))).1,((cO g.1.2.2.1 (0,(0,(0,(0,())))) (bP (bi d.1.2.2.1))).2.1,(g.1.2.1,((cO g.1.2.2.1 (0,(0,(0,(0,())))) (bP (bi d.1.2.2.1))).2.2.2.1,()))))) d.1.2.2.2.1 g.1.2.2.2.2.1 [121]) fun h=>cond (!h.2.1) (j h.1.1 h.1.2.1 h.1.2.2.2.1 h.1.2.2.2.2.1 h.1.2.2.1)<|aZ (mQ h.1.1 h.1.2.1 h.1.2.2.1 h.1.2.2.2.1 h.1.2.2.2.2.1) fun i=>o i.1.1 i.1.2.1 i.1.2.2.2.1 i.1.2.2.2.2.1 i.1.2.2.1) a7) a7) a7) a7) a7) a7) a7) a7) a7) a7)<|j d.1.1 d.1.2.1 d.1.2.2.2.1 d.1.2.2.2.2.1 d.1.2.2.1)<|j f.1.1 f.1.2.1 f.1.2.2.2.1 f.1.2.2.2.2.1 f.1.2.2.1
def Ci (q:gu):Nat->(List eG)->Int->Int->Int->(List eX)->Option (U6.den⊕Vs.den)
 |0,_,_,_,_,_=>a7
 |n+1,d,e,f,g,h=>Ls q (Ci q n) (fun i j l o p=>a6 (.inl ((),((),()),((i,j,l,o,()),p,())))) (a6 (.inr ((),((),()),()))) d e f g h
def ana (q:gu) (n:Nat) (v:UL.den):=bh (Ci q n) v
noncomputable def acG (q:gu):dA:=eH aiZ UL U6 Vs (.exit 0) (ana q bD) 6
def aia (q:gu) (j:List eG) (l:Int) (o:List eX) (p s:Int):Option yf:=aZ (Js j l o p s) fun d=>aZ (mQ d.1.1 d.1.2.1 d.1.2.2.1 d.1.2.2.2.1 d.1.2.2.2.2.1) fun e=>aZ (o9 e.1.1 e.1.2.1 e.1.2.2.1 e.1.2.2.2.1 e.1.2.2.2.2.1 [107]) fun f=>aZ (mQ f.1.1 f.1.2.1 f.1.2.2.1 f.1.2.2.2.1 f.1.2.2.2.2.1) fun g=>aZ (Ci q bD g.1.1 g.1.2.1 g.1.2.2.2.1 g.1.2.2.2.2.1 g.1.2.2.1) fun u=>dB u (fun h=>aZ (o9 h.2.2.1.1 h.2.2.1.2.1 h.2.2.2.1 h.2.2.1.2.2.1 h.2.2.1.2.2.2.1 [122]) fun i=>a6 ((i.1.1,(i.1.2.1,(i.1.2.2.1,(i.1.2.2.2.1,(i.1.2.2.2.2.1,()))))),())) (fun v=>a7)
noncomputable def ZX (q:gu):Env:=fK prog tt [] [(256,4,aiZ),(256,600005,sG),(41,600003,ja)] [(256,4,acG q)] [] [(69,BF),(102,akI),(103,abe),(106,zB),(259,VX),(260,BD),(261,VY),(270,adU q)]
def adr (q:gu) {d:Type} (a:UL.den->Option d) (b:U6.den->Option d) (c:Vs.den->Option d) (v:UL.den):Option d:=bh (Ls q (be a) (be b) (c ((),((),()),()))) v
theorem anD (q:gu):dU (ZX q) 256 ag9 (acG q):=lN (adr q) (h2:=by intros;simp only[adr,be,bh,Ls,di,dm,aY,bZ,dn])
theorem aqv (q:gu):dL (ZX q) 256 apq:=zL [ag9] (aD (fM (anD q)) aN)
theorem aeF (q:gu) (H:Zo q):eP (ZX q):=eB aN [256] (aD ⟨f256,apq,by kernel_rfl,by kernel_rfl,aqv q⟩ aN) (hx:=(aD kX (aD IZ (aD pX (aD oq (aD CZ (aD qc (aD C9 (aD H.2.2.2.2.2.2.2.2.2.2.2.2.2.1 aN)))))))))
noncomputable def apr:Code:=(f270.body).getD .skip
noncomputable def aha:Code:=cA (cA (cA (cB (cB (apr)))))
def ai0:dW:=⟨[0,100002],[],[0],[],[],[]⟩
def UM:SQ:=⟨us bs 19,cY,cU⟩
def U7:SQ:=⟨us bs 19,cY,cU⟩
def Vt:SQ:=⟨us [] 20,cY,[]⟩
def Lt (q:gu) {f:Type} (g h:(List eG)->Int->Int->Int->(List eX)->Option f) (s:Option f) (i:List eG) (j l o:Int) (p:List eX):Option f:=aZ (oZ i j p l o [124]) fun d=>cond d.2.1 (aZ (Js d.1.1 d.1.2.1 d.1.2.2.1 d.1.2.2.2.1 d.1.2.2.2.2.1) fun e=>g e.1.1 e.1.2.1 e.1.2.2.2.1 e.1.2.2.2.2.1 e.1.2.2.1)<|h d.1.1 d.1.2.1 d.1.2.2.2.1 d.1.2.2.2.2.1 d.1.2.2.1
def Gw (q:gu):Nat->(List eG)->Int->Int->Int->(List eX)->Option (U7.den⊕Vt.den)
 |0,_,_,_,_,_=>a7
 |n+1,d,e,f,g,h=>Lt q (Gw q n) (fun i j l o p=>a6 (.inl ((),((),()),((i,j,l,o,()),p,())))) (a6 (.inr ((),((),()),()))) d e f g h
def anb (q:gu) (n:Nat) (v:UM.den):=bh (Gw q n) v
noncomputable def acH (q:gu):dA:=eH ai0 UM U7 Vt (.exit 0) (anb q bD) 6
def aid (q:gu) (l:List eG) (o:Int) (p:List eX) (s u:Int):Option yf:=aZ (oZ l o p s u [40]) fun f=>aZ (Js f.1.1 f.1.2.1 f.1.2.2.1 f.1.2.2.2.1 f.1.2.2.2.2.1) fun g=>aZ (Gw q bD g.1.1 g.1.2.1 g.1.2.2.2.1 g.1.2.2.2.2.1 g.1.2.2.1) fun v=>dB v (fun h=>aZ (o9 h.2.2.1.1 h.2.2.1.2.1 h.2.2.2.1 h.2.2.1.2.2.1 h.2.2.1.2.2.2.1 [41]) fun i=>aZ (mQ i.1.1 i.1.2.1 i.1.2.2.1 i.1.2.2.2.1 i.1.2.2.2.2.1) fun j=>aZ (TE j.1.1 j.1.2.1 j.1.2.2.1 j.1.2.2.2.1 j.1.2.2.2.2.1) fun d=>cond d.2.1 (cond (bC 2 2) (cond (bC d.1.2.1 d.1.2.1) (cond (bC d.1.2.2.2.1 d.1.2.2.2.1) (cond (dZ (bI d.1.2.2.1 [(2,(d.1.2.1,(0,(d.1.2.2.2.1,()))))]) 32) (cond (bC 2 2) (cond (bC d.1.2.1 d.1.2.1) (cond (bC d.1.2.2.2.1 d.1.2.2.2.1) (cond ((bC 2 2)&&((bC d.1.2.1 d.1.2.1)&&((bC 0 0)&&((bC d.1.2.2.2.1 d.1.2.2.2.1)&&true)))) (aZ (q.q71 d.1.1 d.1.2.1 (bI d.1.2.2.1 [(2,(d.1.2.1,(0,(d.1.2.2.2.1,()))))]) (bi d.1.2.2.1) d.1.2.2.2.2.1) fun e=>cond (gm e.1.2.2.1 (bi d.1.2.2.1)) (cond (mV (bP (bi d.1.2.2.1)) e.1.2.2.1) (a6 ((e.1.1,(e.1.2.1,((gp e.1.2.2.1 (bP (bi d.1.2.2.1)) ((cO e.1.2.2.1 (0,(0,(0,(0,())))) (bP (bi d.1.2.2.1))).1,((cO e.1.2.2.1 (0,(0,(0,(0,())))) (bP (bi d.1.2.2.1))).2.1,(e.1.2.1,((cO e.1.2.2.1 (0,(0,(0,(0,())))) (bP (bi d.1.2.2.1))).2.2.2.1,()))))),(d.1.2.2.2.1,(e.1.2.2.2.2.1,()))))),())) a7) a7) a7) a7) a7) a7) a7) a7) a7) a7)<|some ((d.1.1,(d.1.2.1,(d.1.2.2.1,(d.1.2.2.2.1,(d.1.2.2.2.2.1,()))))),())) (fun x=>a7)
noncomputable def ZY (q:gu):Env:=fK prog tt [] [(270,2,ai0),(270,600007,sG),(41,600003,ja)] [(270,2,acH q)] [] [(69,BF),(70,RJ),(71,abj q),(106,zB),(259,VX),(260,BD)]
def ads (q:gu) {d:Type} (a:UM.den->Option d) (b:U7.den->Option d) (c:Vt.den->Option d) (v:UM.den):Option d:=bh (Lt q (be a) (be b) (c ((),((),()),()))) v
theorem anE (q:gu):dU (ZY q) 270 aha (acH q):=lN (ads q) (h2:=by intros;simp only[ads,be,bh,Lt,di,dm,aY,bZ,dn])
theorem aqw (q:gu):dL (ZY q) 270 apr:=zL [aha] (aD (fM (anE q)) aN)
theorem aeI (q:gu) (H:Zo q):eP (ZY q):=eB aN [270] (aD ⟨f270,apr,by kernel_rfl,by kernel_rfl,aqw q⟩ aN) (hx:=(aD kX (aD BG (aD H.1 (aD oq (aD CZ (aD qc aN)))))))
def aic (q:gu) (g:List eG) (h:Int) (i:List eX) (j l:Int):Option yf:=aZ (o9 g h i j l [100]) fun d=>aZ (q.q268 d.1.1 d.1.2.1 d.1.2.2.1 d.1.2.2.2.1 d.1.2.2.2.2.1) fun e=>aZ (o9 e.1.1 e.1.2.1 e.1.2.2.1 e.1.2.2.2.1 e.1.2.2.2.2.1 [103]) fun f=>a6 ((f.1.1,(f.1.2.1,(f.1.2.2.1,(f.1.2.2.2.1,(f.1.2.2.2.2.1,()))))),())
noncomputable def apF (q:gu):Env:=fK prog tt [] [] [] [] [(260,BD),(268,Dc q)]
theorem aeH (q:gu) (H:Zo q):eP (apF q):=eB aN [] aN (hx:=(aD qc (aD H.2.2.2.2.2.2.1 aN)))
def eQ:Nat->gu
 |0=>⟨(fun _ _ _ _ _=>a7),(fun _ _ _ _ _=>a7),(fun _ _ _ _ _=>a7),(fun _ _ _ _ _=>a7),(fun _ _ _ _ _=>a7),(fun _ _ _ _ _=>a7),(fun _ _ _ _ _=>a7),(fun _ _ _ _ _=>a7),(fun _ _ _ _ _=>a7),(fun _ _ _ _ _=>a7),(fun _ _ _ _ _=>a7),(fun _ _ _ _ _=>a7),(fun _ _ _ _ _=>a7),(fun _ _ _ _ _=>a7),(fun _ _ _ _ _=>a7)⟩
 |r+1=>⟨apO (eQ r),ahX (eQ r),WU (eQ r),ah0 (eQ r),ah1 (eQ r),xA (eQ r),aib (eQ r),ah6 (eQ r),ah7 (eQ r),ah8 (eQ r),aom (eQ r),ah9 (eQ r),aia (eQ r),aid (eQ r),aic (eQ r)⟩
def apS (d:List eG) (e:Int) (f:List eX) (g h:Int):Option yf:=(eQ bD).q71 d e f g h
def aoU:fF:=⟨90,Dl,[],[],fun x y=>apS x.1 x.2.1 x.2.2.1 x.2.2.2.1 x.2.2.2.2.1⟩
theorem aaa (q:gu) (d:Zo q):Zo ⟨apO q,ahX q,WU q,ah0 q,ah1 q,xA q,aib q,ah6 q,ah7 q,ah8 q,aom q,ah9 q,aia q,aid q,aic q⟩:=⟨sB (ahI q d),sB (aeg q d),sB (aeq q d),sB (aet q d),sB (aex q d),sB (aew q d),sB (aeG q d),sB (aeA q d),sB (aeB q d),sB (aeC q d),sB (aeD q d),sB (aeE q d),sB (aeF q d),sB (aeI q d),sB (aeH q d)⟩
theorem akb: ∀r,Zo (eQ r)
 |0=>⟨uH fun _ _=>rfl,uH fun _ _=>rfl,uH fun _ _=>rfl,uH fun _ _=>rfl,uH fun _ _=>rfl,uH fun _ _=>rfl,uH fun _ _=>rfl,uH fun _ _=>rfl,uH fun _ _=>rfl,uH fun _ _=>rfl,uH fun _ _=>rfl,uH fun _ _=>rfl,uH fun _ _=>rfl,uH fun _ _=>rfl,uH fun _ _=>rfl⟩
 |r+1=>aaa _ (akb r)
theorem alk:dJ prog 71 aoU:=(akb bD).1
noncomputable def b42:Code:=(f42.body).getD .skip
noncomputable def aog:Code:=cA (cA (cB (b42)))
def aox:dW:=⟨[0,2,100001],[],[],[],[],[]⟩
def acU:SQ:=⟨us [ct,.u,ci] 26,cY,cU⟩
def aaT:SQ:=⟨us [] 29,cY,cU⟩
def aaY:SQ:=⟨us [] 29,cY,[]⟩
def VQ {g:Type} (h:Bool->(List eG)->Int->Int->Int->(List eX)->Option g) (s:(List eG)->Int->Int->Int->(List eX)->Option g) (u:Option g) (l:Bool) (i:List eG) (j o p:Int) (q:List eX):Option g:=cond (gY j (bi i)) (aZ (oZ i j q o p [110]) fun e=>cond e.2.1 (h l e.1.1 e.1.2.1 e.1.2.2.2.1 e.1.2.2.2.2.1 e.1.2.2.1)<|cond (!l) (aZ (TE e.1.1 e.1.2.1 e.1.2.2.1 e.1.2.2.2.1 e.1.2.2.2.2.1) fun d=>cond d.2.1 (cond (bC 2 2) (cond (bC d.1.2.1 d.1.2.1) (cond (bC d.1.2.2.2.1 d.1.2.2.2.1) (cond (dZ (bI d.1.2.2.1 [(2,(d.1.2.1,(0,(d.1.2.2.2.1,()))))]) 32) (cond (bC 2 2) (cond (bC d.1.2.1 d.1.2.1) (cond (bC d.1.2.2.2.1 d.1.2.2.2.1) (cond ((bC 2 2)&&((bC d.1.2.1 d.1.2.1)&&((bC 0 0)&&((bC d.1.2.2.2.1 d.1.2.2.2.1)&&true)))) (aZ (apS d.1.1 d.1.2.1 (bI d.1.2.2.1 [(2,(d.1.2.1,(0,(d.1.2.2.2.1,()))))]) (bi d.1.2.2.1) d.1.2.2.2.2.1) fun f=>cond (gm f.1.2.2.1 (bi d.1.2.2.1)) (cond (mV (bP (bi d.1.2.2.1)) f.1.2.2.1) (h true f.1.1 f.1.2.1 d.1.2.2.2.1 f.1.2.2.2.2.1 (gp f.1.2.2.1 (bP (bi d.1.2.2.1)) ((cO f.1.2.2.1 (0,(0,(0,(0,())))) (bP (bi d.1.2.2.1))).1,((cO f.1.2.2.1 (0,(0,(0,(0,())))) (bP (bi d.1.2.2.1))).2.1,(f.1.2.1,((cO f.1.2.2.1 (0,(0,(0,(0,())))) (bP (bi d.1.2.2.1))).2.2.2.1,())))))) a7) a7) a7) a7) a7) a7) a7) a7) a7) a7)<|aZ (Np d.1.1 d.1.2.1 d.1.2.2.1 d.1.2.2.2.1 d.1.2.2.2.2.1 17) fun f=>h false f.1.1 f.1.2.1 f.1.2.2.2.1 f.1.2.2.2.2.1 f.1.2.2.1)<|aZ (Np e.1.1 e.1.2.1 e.1.2.2.1 e.1.2.2.2.1 e.1.2.2.2.2.1 17) fun d=>h false d.1.1 d.1.2.1 d.1.2.2.2.1 d.1.2.2.2.2.1 d.1.2.2.1)<|s i j o p q
def Io:Nat->Bool->(List eG)->Int->Int->Int->(List eX)->Option (aaT.den⊕aaY.den)
 |0,_,_,_,_,_,_=>a7
 |n+1,d,e,f,g,h,i=>VQ (Io n) (fun j l o p q=>a6 (.inl ((),((),()),((j,l,o,p,()),q,())))) (a6 (.inr ((),((),()),()))) d e f g h i
def aqB (n:Nat) (v:acU.den):=bc (Io n) v
noncomputable def ajv:dA:=eH aox acU aaT aaY (.exit 0) (aqB bD) 6
def apR (e:List eG) (f:Int) (g:List eX) (h i:Int):Option yf:=aZ (Io bD false e f h i g) fun j=>dB j (fun d=>a6 ((d.2.2.1.1,(d.2.2.1.2.1,(d.2.2.2.1,(d.2.2.1.2.2.1,(d.2.2.1.2.2.2.1,()))))),())) (fun l=>a7)
def atH:fF:=⟨90,Dl,[],[],fun x y=>apR x.1 x.2.1 x.2.2.1 x.2.2.2.1 x.2.2.2.2.1⟩
noncomputable def ahA:Env:=fK prog tt [] [(42,1,aox),(42,600006,sG),(41,600003,ja)] [(42,1,ajv)] [] [(69,BF),(70,RJ),(71,aoU),(72,adW)]
def akj {d:Type} (a:acU.den->Option d) (b:aaT.den->Option d) (c:aaY.den->Option d) (v:acU.den):Option d:=bc (VQ (bb a) (be b) (c ((),((),()),()))) v
theorem aqN:dU ahA 42 aog ajv:=lN (akj) (h2:=by intros;simp only[akj,bb,be,bc,VQ,di,dm,aY,bZ,dn])
theorem ath:dL ahA 42 b42:=zL [aog] (aD (fM (aqN)) aN)
theorem ahB:eP ahA:=eB aN [42] (aD ⟨f42,b42,by kernel_rfl,by kernel_rfl,ath⟩ aN) (hx:=(aD kX (aD BG (aD alk (aD Hf aN)))))
theorem ale:dJ prog 42 atH:=sB ahB
def Tv (e:List eG):Option ((List eX)×Unit):=cond (bC 1 1) (cond (bC 0 0) (cond (bC (-1) (-1)) (cond (dZ [(1,(0,(0,((-1),()))))] 32) (cond (bC 1 1) (cond (bC 0 0) (cond (bC (-1) (-1)) (cond ((bC 1 1)&&((bC 0 0)&&((bC 0 0)&&((bC (-1) (-1))&&true)))) (aZ (apR e 0 [(1,(0,(0,((-1),()))))] 0 0) fun d=>cond (gm d.1.2.2.1 0) (cond (mV (bP 0) d.1.2.2.1) (a6 ((gp d.1.2.2.1 (bP 0) ((cO d.1.2.2.1 (0,(0,(0,(0,())))) (bP 0)).1,((cO d.1.2.2.1 (0,(0,(0,(0,())))) (bP 0)).2.1,(d.1.2.1,((cO d.1.2.2.1 (0,(0,(0,(0,())))) (bP 0)).2.2.2.1,()))))),())) a7) a7) a7) a7) a7) a7) a7) a7) a7) a7
def adM:Sum:=⟨[qE],[(.list oV,false)],fun x=>Tv x.1⟩
theorem OX:dO prog 23 adM:=qC [(23,600002,⟨[3],[],[],[],[],[]⟩),(41,600003,ja)] aN (sF ale aN)
def aqW:SP:=⟨us [] 30,[]⟩
def aq8:SP:=⟨us [.u,.u,ci] 27,[]⟩
def akD {f:Type} (g:bH->Int->Option f) (h:Option f) (i:Bool->Option f) (e:bH) (d:Int):Option f:=cond (leI (bV .i64 d (bi e)) 65) (cond (gy (bi [32,33,32,123,32,125,32,99,97,115,101,32,100,111,32,100,111,110,101,32,101,108,105,102,32,101,108,115,101,32,101,115,97,99,32,102,105,32,102,111,114,32,105,102,32,105,110,32,116,104,101,110,32,117,110,116,105,108,32,119,104,105,108,101,32]) d (bV .i64 d (bi e))) (cond (iG (sub [32,33,32,123,32,125,32,99,97,115,101,32,100,111,32,100,111,110,101,32,101,108,105,102,32,101,108,115,101,32,101,115,97,99,32,102,105,32,102,111,114,32,105,102,32,105,110,32,116,104,101,110,32,117,110,116,105,108,32,119,104,105,108,101,32] d (bV .i64 d (bi e))) e) (i true)<|g e (bV .i64 d 1)) a7) h
def Uf:Nat->bH->Int->Option (aqW.den⊕aq8.den)
 |0,_,_=>a7
 |n+1,d,e=>akD (Uf n) (a6 (.inl ((),()))) (fun f=>a6 (.inr ((f,()),()))) d e
def apT (d:bH):Option o8:=cond (bC (bi d) 0) (a6 (false,()))<|aZ (Nl 32 d) fun e=>cond e.1 (a6 (false,()))<|cond (GV [32] d) (cond (GV (bI [32] d) [32]) (aZ (Uf bD (bI (bI [32] d) [32]) 0) fun f=>dB f (fun h=>a6 (false,())) (fun g=>a6 (g.1.1,()))) a7) a7
def aqT:SP:=⟨us [] 63,[]⟩
def aq5:SP:=⟨us [.u,.u,bL] 60,[]⟩
def akC {e:Type} (g:Int->Int->bH->Int->Int->Option e) (h:Option e) (i:bH->Option e) (d j:Int) (f:bH) (l o:Int):Option e:=cond (leI d 17) (aZ (asN d) fun p=>cond (iG p.1 f) (cond (gy (bi [97,111,121,60,60,60,60,60,60,60,60,60,38,59,124,40,41]) (eY .i64 d 1) d) (i (sub [97,111,121,60,60,60,60,60,60,60,60,60,38,59,124,40,41] (eY .i64 d 1) d)) a7)<|g (bV .i64 d 1) j f l o) h
def Ue:Nat->Int->Int->bH->Int->Int->Option (aqT.den⊕aq5.den)
 |0,_,_,_,_,_=>a7
 |n+1,d,e,f,g,h=>akC (Ue n) (a6 (.inl ((),()))) (fun i=>a6 (.inr ((i,()),()))) d e f g h
def PD (d:eG):Option (bH×Unit):=cond (bC d.1 2) (a6 ([110],()))<|cond (bC d.1 5) (a6 ([35],()))<|cond (bC d.1 4) (aZ (Ue bD 1 d.1 d.2.1 d.2.2.1 d.2.2.2.1) fun e=>dB e (fun g=>a6 ([63],())) (fun f=>a6 (f.1.1,())))<|cond (!(bC d.1 6)) (a6 ([63],()))<|aZ (apT d.2.1) fun e=>cond (!e.1) (a6 ([120],()))<|cond (bC (bi d.2.1) 1) (a6 (d.2.1,()))<|cond (iG d.2.1 [105,102]) (a6 ([105],()))<|cond (iG d.2.1 [105,110]) (a6 ([107],()))<|cond (iG d.2.1 [101,108,115,101]) (a6 ([108],()))<|cond (iG d.2.1 [101,115,97,99]) (a6 ([122],()))<|cond (iG d.2.1 [102,111,114]) (a6 ([114],()))<|cond (iG d.2.1 [100,111,110,101]) (a6 ([103],()))<|cond (iG d.2.1 [117,110,116,105,108]) (a6 ([119],()))<|cond (gy (bi d.2.1) 0 1) (a6 ((sub d.2.1 0 1),())) a7
def amh (d:Int):Option o8:=cond (leI 9 d) (cond (leI d 14) (a6 (true,()))<|some ((bC d 16),()))<|some ((bC d 16),())
def Ag (h:List eG) (i:bH) (g:List eX) (d e j f:Int):Option (taF×EO):=cond (bC f f) (cond (bC d d) (cond (bC e e) (cond (dZ (bI g [(f,(d,(0,(e,()))))]) 32) (cond (bC f f) (cond (bC d d) (cond (bC e e) (cond ((bC f f)&&((bC d d)&&((bC 0 0)&&((bC e e)&&true)))) (aZ (amh f) fun l=>cond l.1 (a6 ((h,(i,((bI g [(f,(d,(0,(e,()))))]),(d,((eY .i64 (bi (bI g [(f,(d,(0,(e,()))))])) 1),((bV .i64 j 1),())))))),(e,())))<|some ((h,(i,((bI g [(f,(d,(0,(e,()))))]),(d,((eY .i64 (bi (bI g [(f,(d,(0,(e,()))))])) 1),(j,())))))),(e,()))) a7) a7) a7) a7) a7) a7) a7) a7
def lK (f:List eG) (d:bH) (g:List eX) (e h i:Int) (j:bH):Option (taF×o8):=cond (gY e (bi d)) (cond (gm d e) (aZ (Nl (bU d e) j) fun l=>a6 ((f,(d,(g,(e,(h,(i,())))))),(l.1,()))) a7)<|some ((f,(d,(g,(e,(h,(i,())))))),(false,()))
def WZ (f:List eG) (g:bH) (h:List eX) (i j l:Int):Option (taF×o8):=aZ (lK f g h i j l [60]) fun e=>cond e.2.1 (a6 ((e.1.1,(e.1.2.1,(e.1.2.2.1,(e.1.2.2.2.1,(e.1.2.2.2.2.1,(e.1.2.2.2.2.2.1,())))))),(true,())))<|aZ (lK e.1.1 e.1.2.1 e.1.2.2.1 e.1.2.2.2.1 e.1.2.2.2.2.1 e.1.2.2.2.2.2.1 [35]) fun d=>cond d.2.1 (cond (gY (bV .i64 d.1.2.2.2.1 1) (bi d.1.2.1)) (cond (gm d.1.2.1 (bV .i64 d.1.2.2.2.1 1)) (a6 ((d.1.1,(d.1.2.1,(d.1.2.2.1,(d.1.2.2.2.1,(d.1.2.2.2.2.1,(d.1.2.2.2.2.2.1,())))))),((bC (bU d.1.2.1 (bV .i64 d.1.2.2.2.1 1)) 60),()))) a7)<|some ((d.1.1,(d.1.2.1,(d.1.2.2.1,(d.1.2.2.2.1,(d.1.2.2.2.2.1,(d.1.2.2.2.2.2.1,())))))),(false,())))<|some ((d.1.1,(d.1.2.1,(d.1.2.2.1,(d.1.2.2.2.1,(d.1.2.2.2.2.1,(d.1.2.2.2.2.2.1,())))))),(false,()))
def Qw (e:List eG) (f:bH) (g:List eX) (h i j:Int):Option (taF×o8):=aZ (lK e f g h i j [123,40,105,119,114,99]) fun d=>cond d.2.1 (a6 ((d.1.1,(d.1.2.1,(d.1.2.2.1,(d.1.2.2.2.1,(d.1.2.2.2.2.1,(d.1.2.2.2.2.2.1,())))))),((gY d.1.2.2.2.2.2.1 200),())))<|some ((d.1.1,(d.1.2.1,(d.1.2.2.1,(d.1.2.2.2.1,(d.1.2.2.2.2.1,(d.1.2.2.2.2.2.1,())))))),(false,()))
def ami (g:List eG) (h:bH) (i:List eX) (j l o:Int):Option (taF×o8):=aZ (lK g h i j l o [120]) fun d=>cond d.2.1 (a6 ((d.1.1,(d.1.2.1,(d.1.2.2.1,(d.1.2.2.2.1,(d.1.2.2.2.2.1,(d.1.2.2.2.2.2.1,())))))),(true,())))<|aZ (WZ d.1.1 d.1.2.1 d.1.2.2.1 d.1.2.2.2.1 d.1.2.2.2.2.1 d.1.2.2.2.2.2.1) fun e=>cond e.2.1 (a6 ((e.1.1,(e.1.2.1,(e.1.2.2.1,(e.1.2.2.2.1,(e.1.2.2.2.2.1,(e.1.2.2.2.2.2.1,())))))),(true,())))<|aZ (Qw e.1.1 e.1.2.1 e.1.2.2.1 e.1.2.2.2.1 e.1.2.2.2.2.1 e.1.2.2.2.2.2.1) fun f=>a6 ((f.1.1,(f.1.2.1,(f.1.2.2.1,(f.1.2.2.2.1,(f.1.2.2.2.2.1,(f.1.2.2.2.2.2.1,())))))),(f.2.1,()))
def Nk (f:List eG) (g:bH) (h:List eX) (i j l:Int):Option (taF×o8):=aZ (lK f g h i j l [33]) fun d=>cond d.2.1 (a6 ((d.1.1,(d.1.2.1,(d.1.2.2.1,(d.1.2.2.2.1,(d.1.2.2.2.2.1,(d.1.2.2.2.2.2.1,())))))),(true,())))<|aZ (ami d.1.1 d.1.2.1 d.1.2.2.1 d.1.2.2.2.1 d.1.2.2.2.2.1 d.1.2.2.2.2.2.1) fun e=>a6 ((e.1.1,(e.1.2.1,(e.1.2.2.1,(e.1.2.2.2.1,(e.1.2.2.2.2.1,(e.1.2.2.2.2.2.1,())))))),(e.2.1,()))
end
section
open Option renaming some → a6, none → a7
open Go.RowKit
def Ia (d:List eX) (e f:Int):=gp d (bP e) ((cO d (0,(0,(0,(0,())))) (bP e)).1,((cO d (0,(0,(0,(0,())))) (bP e)).2.1,(f,((cO d (0,(0,(0,(0,())))) (bP e)).2.2.2.1,()))))
def nM (g:List eG) (h:bH) (e:List eX) (f d i j:Int):Option EX:=cond (gm e d) (cond (mV (bP d) e) (cond (gm (Ia e d f) d) (cond (mV (bP d) (Ia e d f)) (aZ (amh (cO (Ia e d f) (0,(0,(0,(0,())))) (bP d)).1) fun l=>cond l.1 (a6 ((g,(h,((Ia e d f),(f,(j,((eY .i64 i 1),())))))),()))<|some ((g,(h,((Ia e d f),(f,(j,(i,())))))),())) a7) a7) a7) a7
def aqY:SQ:=⟨us [.u,.u,.u,bX] 13,cY,bw⟩
def ara:SQ:=⟨us dj 14,cY,[]⟩
def akF {e:Type} (g h:Int->(List eG)->bH->Int->Int->Int->(List eX)->Option e) (s:Int->Option e) (f:Int) (i:List eG) (j:bH) (l o p:Int) (q:List eX):Option e:=aZ (lK i j q l o p [110]) fun d=>cond d.2.1 (g (bV .i64 f 1) d.1.1 d.1.2.1 (bV .i64 d.1.2.2.2.1 1) d.1.2.2.2.2.1 d.1.2.2.2.2.2.1 d.1.2.2.1)<|h f d.1.1 d.1.2.1 d.1.2.2.2.1 d.1.2.2.2.2.1 d.1.2.2.2.2.2.1 d.1.2.2.1
def Uh:Nat->Int->(List eG)->bH->Int->Int->Int->(List eX)->Option (aqY.den⊕ara.den)
 |0,_,_,_,_,_,_,_=>a7
 |n+1,d,e,f,g,h,i,j=>akF (Uh n) (fun l o p q s u v=>a6 (.inl ((l,()),((),()),((o,p,q,s,u,()),v,())))) (fun x=>a6 (.inr ((x,()),((),()),()))) d e f g h i j
def qV (e:List eG) (f:bH) (g:List eX) (h i j:Int):Option (taF×EO):=aZ (Uh bD 0 e f h i j g) fun l=>dB l (fun d=>a6 ((d.2.2.1.1,(d.2.2.1.2.1,(d.2.2.2.1,(d.2.2.1.2.2.1,(d.2.2.1.2.2.2.1,(d.2.2.1.2.2.2.2.1,())))))),(d.1.1,()))) (fun o=>a7)
def rW (f:List eG) (g:bH) (h:List eX) (i j l:Int):Option EX:=aZ (Ag f g h i j l 18) fun d=>aZ (nM d.1.1 d.1.2.1 d.1.2.2.1 d.1.2.2.2.1 d.1.2.2.2.2.1 d.1.2.2.2.2.2.1 d.2.1) fun e=>a6 ((e.1.1,(e.1.2.1,(e.1.2.2.1,(e.1.2.2.2.1,(e.1.2.2.2.2.1,(e.1.2.2.2.2.2.1,())))))),())
def Kv (f:List eG) (g:bH) (h:List eX) (i j l o:Int):Option EX:=aZ (Ag f g h i j l o) fun d=>aZ (nM d.1.1 d.1.2.1 d.1.2.2.1 (bV .i64 d.1.2.2.2.1 1) d.1.2.2.2.2.1 d.1.2.2.2.2.2.1 d.2.1) fun e=>a6 ((e.1.1,(e.1.2.1,(e.1.2.2.1,(e.1.2.2.2.1,(e.1.2.2.2.2.1,(e.1.2.2.2.2.2.1,())))))),())
def lF (f:List eG) (g:bH) (h:List eX) (i j l:Int) (o:bH):Option EX:=aZ (lK f g h i j l o) fun d=>cond d.2.1 (a6 ((d.1.1,(d.1.2.1,(d.1.2.2.1,((bV .i64 d.1.2.2.2.1 1),(d.1.2.2.2.2.1,(d.1.2.2.2.2.2.1,())))))),()))<|aZ (rW d.1.1 d.1.2.1 d.1.2.2.1 d.1.2.2.2.1 d.1.2.2.2.2.1 d.1.2.2.2.2.2.1) fun e=>a6 ((e.1.1,(e.1.2.1,(e.1.2.2.1,(e.1.2.2.2.1,(e.1.2.2.2.2.1,(e.1.2.2.2.2.2.1,())))))),())
def uY (e:List eG) (g:bH) (h:List eX) (f i j:Int):Option EX:=cond (gY f (bi e)) (cond (gm e f) (cond (bC (bT e (0,([],(0,(0,())))) f).1 6) (aZ (Kv e g h f i j 7) fun d=>a6 ((d.1.1,(d.1.2.1,(d.1.2.2.1,(d.1.2.2.2.1,(d.1.2.2.2.2.1,(d.1.2.2.2.2.2.1,())))))),()))<|aZ (rW e g h f i j) fun d=>a6 ((d.1.1,(d.1.2.1,(d.1.2.2.1,(d.1.2.2.2.1,(d.1.2.2.2.2.1,(d.1.2.2.2.2.2.1,())))))),())) a7)<|aZ (rW e g h f i j) fun d=>a6 ((d.1.1,(d.1.2.1,(d.1.2.2.1,(d.1.2.2.2.1,(d.1.2.2.2.2.1,(d.1.2.2.2.2.2.1,())))))),())
def abU (h:List eG) (i:bH) (j:List eX) (l o p:Int):Option EX:=aZ (Ag h i j l o p 8) fun g=>aZ (lK g.1.1 g.1.2.1 g.1.2.2.1 g.1.2.2.2.1 g.1.2.2.2.2.1 g.1.2.2.2.2.2.1 [35]) fun d=>cond d.2.1 (aZ (uY d.1.1 d.1.2.1 d.1.2.2.1 (bV .i64 (bV .i64 d.1.2.2.2.1 1) 1) d.1.2.2.2.2.1 d.1.2.2.2.2.2.1) fun e=>aZ (nM e.1.1 e.1.2.1 e.1.2.2.1 e.1.2.2.2.1 e.1.2.2.2.2.1 e.1.2.2.2.2.2.1 g.2.1) fun f=>a6 ((f.1.1,(f.1.2.1,(f.1.2.2.1,(f.1.2.2.2.1,(f.1.2.2.2.2.1,(f.1.2.2.2.2.2.1,())))))),()))<|aZ (uY d.1.1 d.1.2.1 d.1.2.2.1 (bV .i64 d.1.2.2.2.1 1) d.1.2.2.2.2.1 d.1.2.2.2.2.2.1) fun e=>aZ (nM e.1.1 e.1.2.1 e.1.2.2.1 e.1.2.2.2.1 e.1.2.2.2.2.1 e.1.2.2.2.2.2.1 g.2.1) fun f=>a6 ((f.1.1,(f.1.2.1,(f.1.2.2.1,(f.1.2.2.2.1,(f.1.2.2.2.2.1,(f.1.2.2.2.2.2.1,())))))),())
def anK:SP:=⟨us [] 21,[]⟩
def anP:SP:=⟨us dj 18,[]⟩
def adC {f:Type} (g:bH->Int->Option f) (h:Option f) (i:Int->Option f) (e:bH) (d:Int):Option f:=cond (gY d (bi e)) (cond (gm e d) (cond (bC (bU e d) 61) (cond (gy (bi e) 0 d) (aZ (aii (sub e 0 d)) fun j=>cond j.1 (i d)<|g e (bV .i64 d 1)) a7)<|g e (bV .i64 d 1)) a7) h
def Gp:Nat->bH->Int->Option (anK.den⊕anP.den)
 |0,_,_=>a7
 |n+1,d,e=>adC (Gp n) (a6 (.inl ((),()))) (fun f=>a6 (.inr ((f,()),()))) d e
def aif (d:bH):Option EO:=aZ (Gp bD d 1) fun e=>dB e (fun g=>a6 (0,())) (fun f=>a6 (f.1.1,()))
structure rM where
 q52:(List eG)->bH->(List eX)->Int->Int->Int->Option EX
 q88:(List eG)->bH->(List eX)->Int->Int->Int->Option EX
 q121:(List eG)->bH->(List eX)->Int->Int->Int->Option EX
 q155:(List eG)->bH->(List eX)->Int->Int->Int->Option EX
 q230:(List eG)->bH->(List eX)->Int->Int->Int->Option EX
 q231:(List eG)->bH->(List eX)->Int->Int->Int->Option EX
 q186:(List eG)->bH->(List eX)->Int->Int->Int->Option EX
 q232:(List eG)->bH->(List eX)->Int->Int->Int->Option EX
 q233:(List eG)->bH->(List eX)->Int->Int->Int->Option EX
def ajS:SQ:=⟨us [ct,.u,bX] 27,cY,bw⟩
def ajY:SQ:=⟨us [] 30,cY,[]⟩
def VR (q:rM) {i:Type} (l j:Int->(List eG)->bH->Int->Int->Int->(List eX)->Option i) (y:Option i) (h:Int) (o:List eG) (p:bH) (s u v:Int) (x:List eX):Option i:=aZ (lK o p x s u v [59,38]) fun f=>cond f.2.1 (aZ (qV f.1.1 f.1.2.1 f.1.2.2.1 (bV .i64 f.1.2.2.2.1 1) f.1.2.2.2.2.1 f.1.2.2.2.2.2.1) fun e=>aZ (Nk e.1.1 e.1.2.1 e.1.2.2.1 e.1.2.2.2.1 e.1.2.2.2.2.1 e.1.2.2.2.2.2.1) fun d=>cond (!d.2.1) (j h d.1.1 d.1.2.1 d.1.2.2.2.1 d.1.2.2.2.2.1 d.1.2.2.2.2.2.1 d.1.2.2.1)<|aZ (q.q88 d.1.1 d.1.2.1 d.1.2.2.1 d.1.2.2.2.1 d.1.2.2.2.2.1 d.1.2.2.2.2.2.1) fun g=>l h g.1.1 g.1.2.1 g.1.2.2.2.1 g.1.2.2.2.2.1 g.1.2.2.2.2.2.1 g.1.2.2.1)<|aZ (qV f.1.1 f.1.2.1 f.1.2.2.1 f.1.2.2.2.1 f.1.2.2.2.2.1 f.1.2.2.2.2.2.1) fun e=>cond (bC e.2.1 0) (j h e.1.1 e.1.2.1 e.1.2.2.2.1 e.1.2.2.2.2.1 e.1.2.2.2.2.2.1 e.1.2.2.1)<|aZ (Nk e.1.1 e.1.2.1 e.1.2.2.1 e.1.2.2.2.1 e.1.2.2.2.2.1 e.1.2.2.2.2.2.1) fun d=>cond (!d.2.1) (j h d.1.1 d.1.2.1 d.1.2.2.2.1 d.1.2.2.2.2.1 d.1.2.2.2.2.2.1 d.1.2.2.1)<|aZ (q.q88 d.1.1 d.1.2.1 d.1.2.2.1 d.1.2.2.2.1 d.1.2.2.2.2.1 d.1.2.2.2.2.2.1) fun g=>l h g.1.1 g.1.2.1 g.1.2.2.2.1 g.1.2.2.2.2.1 g.1.2.2.2.2.2.1 g.1.2.2.1
def yT (q:rM):Nat->Int->(List eG)->bH->Int->Int->Int->(List eX)->Option (ajS.den⊕ajY.den)
 |0,_,_,_,_,_,_,_=>a7
 |n+1,d,e,f,g,h,i,j=>VR q (yT q n) (fun l o p s u v x=>a6 (.inl ((l,()),((),()),((o,p,s,u,v,()),x,())))) (a6 (.inr ((),((),()),()))) d e f g h i j
def apN (q:rM) (h:List eG) (i:bH) (j:List eX) (l o p:Int):Option EX:=aZ (Ag h i j l o p 2) fun d=>aZ (q.q88 d.1.1 d.1.2.1 d.1.2.2.1 d.1.2.2.2.1 d.1.2.2.2.2.1 d.1.2.2.2.2.2.1) fun f=>aZ (yT q bD d.2.1 f.1.1 f.1.2.1 f.1.2.2.2.1 f.1.2.2.2.2.1 f.1.2.2.2.2.2.1 f.1.2.2.1) fun s=>dB s (fun e=>aZ (nM e.2.2.1.1 e.2.2.1.2.1 e.2.2.2.1 e.2.2.1.2.2.1 e.2.2.1.2.2.2.1 e.2.2.1.2.2.2.2.1 e.1.1) fun g=>a6 ((g.1.1,(g.1.2.1,(g.1.2.2.1,(g.1.2.2.2.1,(g.1.2.2.2.2.1,(g.1.2.2.2.2.2.1,())))))),())) (fun u=>a7)
def aqX:SQ:=⟨us [ct,.u,bX] 25,cY,bw⟩
def aq9:SQ:=⟨us [] 28,cY,[]⟩
def akE (q:rM) {h:Type} (j l:Int->(List eG)->bH->Int->Int->Int->(List eX)->Option h) (y:Option h) (i:Int) (o:List eG) (p:bH) (s u v:Int) (x:List eX):Option h:=aZ (lK o p x s u v [97,111]) fun d=>cond d.2.1 (aZ (qV d.1.1 d.1.2.1 d.1.2.2.1 (bV .i64 d.1.2.2.2.1 1) d.1.2.2.2.2.1 d.1.2.2.2.2.2.1) fun g=>aZ (Nk g.1.1 g.1.2.1 g.1.2.2.1 g.1.2.2.2.1 g.1.2.2.2.2.1 g.1.2.2.2.2.2.1) fun e=>cond e.2.1 (aZ (q.q121 e.1.1 e.1.2.1 e.1.2.2.1 e.1.2.2.2.1 e.1.2.2.2.2.1 e.1.2.2.2.2.2.1) fun f=>j i f.1.1 f.1.2.1 f.1.2.2.2.1 f.1.2.2.2.2.1 f.1.2.2.2.2.2.1 f.1.2.2.1)<|aZ (rW e.1.1 e.1.2.1 e.1.2.2.1 e.1.2.2.2.1 e.1.2.2.2.2.1 e.1.2.2.2.2.2.1) fun f=>j i f.1.1 f.1.2.1 f.1.2.2.2.1 f.1.2.2.2.2.1 f.1.2.2.2.2.2.1 f.1.2.2.1)<|l i d.1.1 d.1.2.1 d.1.2.2.2.1 d.1.2.2.2.2.1 d.1.2.2.2.2.2.1 d.1.2.2.1
def Ug (q:rM):Nat->Int->(List eG)->bH->Int->Int->Int->(List eX)->Option (aqX.den⊕aq9.den)
 |0,_,_,_,_,_,_,_=>a7
 |n+1,d,e,f,g,h,i,j=>akE q (Ug q n) (fun l o p s u v x=>a6 (.inl ((l,()),((),()),((o,p,s,u,v,()),x,())))) (a6 (.inr ((),((),()),()))) d e f g h i j
def apP (q:rM) (h:List eG) (i:bH) (j:List eX) (l o p:Int):Option EX:=aZ (Ag h i j l o p 3) fun d=>aZ (q.q121 d.1.1 d.1.2.1 d.1.2.2.1 d.1.2.2.2.1 d.1.2.2.2.2.1 d.1.2.2.2.2.2.1) fun f=>aZ (Ug q bD d.2.1 f.1.1 f.1.2.1 f.1.2.2.2.1 f.1.2.2.2.2.1 f.1.2.2.2.2.2.1 f.1.2.2.1) fun s=>dB s (fun e=>aZ (nM e.2.2.1.1 e.2.2.1.2.1 e.2.2.2.1 e.2.2.1.2.2.1 e.2.2.1.2.2.2.1 e.2.2.1.2.2.2.2.1 e.1.1) fun g=>a6 ((g.1.1,(g.1.2.1,(g.1.2.2.1,(g.1.2.2.2.1,(g.1.2.2.2.2.1,(g.1.2.2.2.2.2.1,())))))),())) (fun u=>a7)
def anI:SQ:=⟨us [ct,.u,bX] 31,cY,bw⟩
def anN:SQ:=⟨us [] 34,cY,[]⟩
def adB (q:rM) {g:Type} (i j:Int->(List eG)->bH->Int->Int->Int->(List eX)->Option g) (x:Option g) (h:Int) (l:List eG) (o:bH) (p s u:Int) (v:List eX):Option g:=aZ (lK l o v p s u [124]) fun d=>cond d.2.1 (aZ (qV d.1.1 d.1.2.1 d.1.2.2.1 (bV .i64 d.1.2.2.2.1 1) d.1.2.2.2.2.1 d.1.2.2.2.2.2.1) fun e=>aZ (q.q155 e.1.1 e.1.2.1 e.1.2.2.1 e.1.2.2.2.1 e.1.2.2.2.2.1 e.1.2.2.2.2.2.1) fun f=>i h f.1.1 f.1.2.1 f.1.2.2.2.1 f.1.2.2.2.2.1 f.1.2.2.2.2.2.1 f.1.2.2.1)<|j h d.1.1 d.1.2.1 d.1.2.2.2.1 d.1.2.2.2.2.1 d.1.2.2.2.2.2.1 d.1.2.2.1
def Cc (q:rM):Nat->Int->(List eG)->bH->Int->Int->Int->(List eX)->Option (anI.den⊕anN.den)
 |0,_,_,_,_,_,_,_=>a7
 |n+1,d,e,f,g,h,i,j=>adB q (Cc q n) (fun l o p s u v x=>a6 (.inl ((l,()),((),()),((o,p,s,u,v,()),x,())))) (a6 (.inr ((),((),()),()))) d e f g h i j
def ahY (q:rM) (j:List eG) (l:bH) (o:List eX) (p s u:Int):Option EX:=aZ (Ag j l o p s u 4) fun h=>aZ (lK h.1.1 h.1.2.1 h.1.2.2.1 h.1.2.2.2.1 h.1.2.2.2.2.1 h.1.2.2.2.2.2.1 [33]) fun e=>cond e.2.1 (aZ (q.q155 e.1.1 e.1.2.1 e.1.2.2.1 (bV .i64 e.1.2.2.2.1 1) e.1.2.2.2.2.1 e.1.2.2.2.2.2.1) fun f=>aZ (Cc q bD h.2.1 f.1.1 f.1.2.1 f.1.2.2.2.1 f.1.2.2.2.2.1 f.1.2.2.2.2.2.1 f.1.2.2.1) fun i=>dB i (fun d=>aZ (nM d.2.2.1.1 d.2.2.1.2.1 d.2.2.2.1 d.2.2.1.2.2.1 d.2.2.1.2.2.2.1 d.2.2.1.2.2.2.2.1 d.1.1) fun g=>a6 ((g.1.1,(g.1.2.1,(g.1.2.2.1,(g.1.2.2.2.1,(g.1.2.2.2.2.1,(g.1.2.2.2.2.2.1,())))))),())) (fun v=>a7))<|aZ (q.q155 e.1.1 e.1.2.1 e.1.2.2.1 e.1.2.2.2.1 e.1.2.2.2.2.1 e.1.2.2.2.2.2.1) fun f=>aZ (Cc q bD h.2.1 f.1.1 f.1.2.1 f.1.2.2.2.1 f.1.2.2.2.2.1 f.1.2.2.2.2.2.1 f.1.2.2.1) fun i=>dB i (fun d=>aZ (nM d.2.2.1.1 d.2.2.1.2.1 d.2.2.2.1 d.2.2.1.2.2.1 d.2.2.1.2.2.2.1 d.2.2.1.2.2.2.2.1 d.1.1) fun g=>a6 ((g.1.1,(g.1.2.1,(g.1.2.2.1,(g.1.2.2.2.1,(g.1.2.2.2.2.1,(g.1.2.2.2.2.2.1,())))))),())) (fun v=>a7)
def ajP:SQ:=⟨us [ct,.u,.u,bX] 140,cY,bw⟩
def ajV:SQ:=⟨us [] 144,cY,[]⟩
def YZ (q:rM) {i:Type} (j:Int->Int->(List eG)->bH->Int->Int->Int->(List eX)->Option i) (l:Int->(List eG)->bH->Int->Int->Int->(List eX)->Option i) (y:Option i) (g h:Int) (o:List eG) (p:bH) (s u v:Int) (x:List eX):Option i:=aZ (WZ o p x s u v) fun d=>cond d.2.1 (aZ (abU d.1.1 d.1.2.1 d.1.2.2.1 d.1.2.2.2.1 d.1.2.2.2.2.1 d.1.2.2.2.2.2.1) fun e=>j g h e.1.1 e.1.2.1 e.1.2.2.2.1 e.1.2.2.2.2.1 e.1.2.2.2.2.2.1 e.1.2.2.1)<|cond (gY d.1.2.2.2.1 (bi d.1.1)) (cond (gm d.1.1 d.1.2.2.2.1) (cond (bC (bT d.1.1 (0,([],(0,(0,())))) d.1.2.2.2.1).1 6) (cond (bC h 0) (cond (gm d.1.1 d.1.2.2.2.1) (aZ (aif (bT d.1.1 (0,([],(0,(0,())))) d.1.2.2.2.1).2.1) fun e=>cond (gY 0 e.1) (aZ (Kv d.1.1 d.1.2.1 d.1.2.2.1 d.1.2.2.2.1 d.1.2.2.2.2.1 d.1.2.2.2.2.2.1 6) fun f=>j g h f.1.1 f.1.2.1 f.1.2.2.2.1 f.1.2.2.2.2.1 f.1.2.2.2.2.2.1 f.1.2.2.1)<|aZ (Kv d.1.1 d.1.2.1 d.1.2.2.1 d.1.2.2.2.1 d.1.2.2.2.2.1 d.1.2.2.2.2.2.1 7) fun f=>j g (bV .i64 h 1) f.1.1 f.1.2.1 f.1.2.2.2.1 f.1.2.2.2.2.1 f.1.2.2.2.2.2.1 f.1.2.2.1) a7)<|aZ (Kv d.1.1 d.1.2.1 d.1.2.2.1 d.1.2.2.2.1 d.1.2.2.2.2.1 d.1.2.2.2.2.2.1 7) fun e=>j g (bV .i64 h 1) e.1.1 e.1.2.1 e.1.2.2.2.1 e.1.2.2.2.2.1 e.1.2.2.2.2.2.1 e.1.2.2.1)<|l g d.1.1 d.1.2.1 d.1.2.2.2.1 d.1.2.2.2.2.1 d.1.2.2.2.2.2.1 d.1.2.2.1) a7)<|l g d.1.1 d.1.2.1 d.1.2.2.2.1 d.1.2.2.2.2.1 d.1.2.2.2.2.2.1 d.1.2.2.1
def Au (q:rM):Nat->Int->Int->(List eG)->bH->Int->Int->Int->(List eX)->Option (ajP.den⊕ajV.den)
 |0,_,_,_,_,_,_,_,_=>a7
 |n+1,d,e,f,g,h,i,j,l=>YZ q (Au q n) (fun o p s u v x y=>a6 (.inl ((o,()),((),()),((p,s,u,v,x,()),y,())))) (a6 (.inr ((),((),()),()))) d e f g h i j l
def UW:SQ:=⟨us [] 144,cY,bw⟩
def Vg:SQ:=⟨us [] 144,cY,[]⟩
def G7 (q:rM) {g:Type} (h:(List eG)->bH->Int->Int->Int->(List eX)->Option g) (i:Option g) (j:List eG) (l:bH) (o p s:Int) (u:List eX):Option g:=aZ (Ag j l u o p s 5) fun d=>aZ (Au q bD d.2.1 0 d.1.1 d.1.2.1 d.1.2.2.2.1 d.1.2.2.2.2.1 d.1.2.2.2.2.2.1 d.1.2.2.1) fun v=>dB v (fun e=>aZ (nM e.2.2.1.1 e.2.2.1.2.1 e.2.2.2.1 e.2.2.1.2.2.1 e.2.2.1.2.2.2.1 e.2.2.1.2.2.2.2.1 e.1.1) fun f=>h f.1.1 f.1.2.1 f.1.2.2.2.1 f.1.2.2.2.2.1 f.1.2.2.2.2.2.1 f.1.2.2.1) (fun x=>i)
def sJ (q:rM) (d:List eG) (e:bH) (f g h:Int) (i:List eX):Option (UW.den⊕Vg.den):=G7 q (fun j l o p s u=>a6 (.inl ((),((),()),((j,l,o,p,s,()),u,())))) (a6 (.inr ((),((),()),()))) d e f g h i
def BQ (q:rM) (d:(taF×o8)):Option EX:=aZ (sJ q d.1.1 d.1.2.1 d.1.2.2.2.1 d.1.2.2.2.2.1 d.1.2.2.2.2.2.1 d.1.2.2.1) fun f=>dB f (fun e=>a6 ((e.2.2.1.1,(e.2.2.1.2.1,(e.2.2.2.1,(e.2.2.1.2.2.1,(e.2.2.1.2.2.2.1,(e.2.2.1.2.2.2.2.1,())))))),())) (fun g=>a7)
def ahZ (q:rM) (s:List eG) (u:bH) (v:List eX) (x y z:Int):Option EX:=aZ (ami s u v x y z) fun f=>cond (!f.2.1) (aZ (rW f.1.1 f.1.2.1 f.1.2.2.1 f.1.2.2.2.1 f.1.2.2.2.2.1 f.1.2.2.2.2.2.1) fun e=>a6 ((e.1.1,(e.1.2.1,(e.1.2.2.1,(e.1.2.2.2.1,(e.1.2.2.2.2.1,(e.1.2.2.2.2.2.1,())))))),()))<|aZ (Qw f.1.1 f.1.2.1 f.1.2.2.1 f.1.2.2.2.1 f.1.2.2.2.2.1 f.1.2.2.2.2.2.1) fun e=>cond e.2.1 (aZ (q.q186 e.1.1 e.1.2.1 e.1.2.2.1 e.1.2.2.2.1 e.1.2.2.2.2.1 e.1.2.2.2.2.2.1) fun d=>a6 ((d.1.1,(d.1.2.1,(d.1.2.2.1,(d.1.2.2.2.1,(d.1.2.2.2.2.1,(d.1.2.2.2.2.2.1,())))))),()))<|aZ (lK e.1.1 e.1.2.1 e.1.2.2.1 e.1.2.2.2.1 e.1.2.2.2.2.1 e.1.2.2.2.2.2.1 [120]) fun d=>cond d.2.1 (cond (gY (bV .i64 d.1.2.2.2.1 1) (bi d.1.2.1)) (cond (gm d.1.2.1 (bV .i64 d.1.2.2.2.1 1)) (cond (bC (bU d.1.2.1 (bV .i64 d.1.2.2.2.1 1)) 40) (cond (gY d.1.2.2.2.2.2.1 200) (cond (gm d.1.1 d.1.2.2.2.1) (aZ (aii (bT d.1.1 (0,([],(0,(0,())))) d.1.2.2.2.1).2.1) fun A=>cond A.1 (aZ (Ag d.1.1 d.1.2.1 d.1.2.2.1 d.1.2.2.2.1 d.1.2.2.2.2.1 d.1.2.2.2.2.2.1 16) fun j=>aZ (Kv j.1.1 j.1.2.1 j.1.2.2.1 j.1.2.2.2.1 j.1.2.2.2.2.1 j.1.2.2.2.2.2.1 7) fun l=>aZ (lF l.1.1 l.1.2.1 l.1.2.2.1 (bV .i64 l.1.2.2.2.1 1) l.1.2.2.2.2.1 l.1.2.2.2.2.2.1 [41]) fun o=>aZ (qV o.1.1 o.1.2.1 o.1.2.2.1 o.1.2.2.2.1 o.1.2.2.2.2.1 o.1.2.2.2.2.2.1) fun p=>aZ (Qw p.1.1 p.1.2.1 p.1.2.2.1 p.1.2.2.2.1 p.1.2.2.2.2.1 p.1.2.2.2.2.2.1) fun g=>cond g.2.1 (aZ (q.q186 g.1.1 g.1.2.1 g.1.2.2.1 g.1.2.2.2.1 g.1.2.2.2.2.1 g.1.2.2.2.2.2.1) fun h=>aZ (nM h.1.1 h.1.2.1 h.1.2.2.1 h.1.2.2.2.1 h.1.2.2.2.2.1 h.1.2.2.2.2.2.1 j.2.1) fun i=>a6 ((i.1.1,(i.1.2.1,(i.1.2.2.1,(i.1.2.2.2.1,(i.1.2.2.2.2.1,(i.1.2.2.2.2.2.1,())))))),()))<|aZ (rW g.1.1 g.1.2.1 g.1.2.2.1 g.1.2.2.2.1 g.1.2.2.2.2.1 g.1.2.2.2.2.2.1) fun h=>aZ (nM h.1.1 h.1.2.1 h.1.2.2.1 h.1.2.2.2.1 h.1.2.2.2.2.1 h.1.2.2.2.2.2.1 j.2.1) fun i=>a6 ((i.1.1,(i.1.2.1,(i.1.2.2.1,(i.1.2.2.2.1,(i.1.2.2.2.2.1,(i.1.2.2.2.2.2.1,())))))),()))<|BQ q d) a7)<|BQ q d)<|BQ q d) a7)<|BQ q d)<|BQ q d
def ah2 (q:rM) (g:List eG) (h:bH) (i:List eX) (j l o:Int):Option EX:=aZ (qV g h i j l o) fun f=>aZ (Nk f.1.1 f.1.2.1 f.1.2.2.1 f.1.2.2.2.1 f.1.2.2.2.2.1 f.1.2.2.2.2.2.1) fun d=>cond d.2.1 (aZ (q.q52 d.1.1 d.1.2.1 d.1.2.2.1 d.1.2.2.2.1 d.1.2.2.2.2.1 d.1.2.2.2.2.2.1) fun e=>a6 ((e.1.1,(e.1.2.1,(e.1.2.2.1,(e.1.2.2.2.1,(e.1.2.2.2.2.1,(e.1.2.2.2.2.2.1,())))))),()))<|aZ (rW d.1.1 d.1.2.1 d.1.2.2.1 d.1.2.2.2.1 d.1.2.2.2.2.1 d.1.2.2.2.2.2.1) fun e=>a6 ((e.1.1,(e.1.2.1,(e.1.2.2.1,(e.1.2.2.2.1,(e.1.2.2.2.2.1,(e.1.2.2.2.2.2.1,())))))),())
def ah3 (q:rM) (g:List eG) (h:bH) (i:List eX) (j l o:Int):Option EX:=aZ (lF g h i j l o [100]) fun d=>aZ (q.q230 d.1.1 d.1.2.1 d.1.2.2.1 d.1.2.2.2.1 d.1.2.2.2.2.1 d.1.2.2.2.2.2.1) fun e=>aZ (lF e.1.1 e.1.2.1 e.1.2.2.1 e.1.2.2.2.1 e.1.2.2.2.2.1 e.1.2.2.2.2.2.1 [103]) fun f=>a6 ((f.1.1,(f.1.2.1,(f.1.2.2.1,(f.1.2.2.2.1,(f.1.2.2.2.2.1,(f.1.2.2.2.2.2.1,())))))),())
def anJ:SQ:=⟨us [ct,.u,.u,bX] 104,cY,bw⟩
def anO:SQ:=⟨us [] 108,cY,[]⟩
def an2 (q:rM) {e:Type} (p:Int->Int->Int->(List eG)->bH->Int->Int->Int->(List eX)->Option e) (u:Int->(List eG)->bH->Int->Int->Int->(List eX)->Option e) (v:Option e) (f s d:Int) (g:List eG) (h:bH) (i j l:Int) (o:List eX):Option e:=cond (gY d 6) (cond (gm [123,40,105,119,114,99] d) (cond (bC (bU [123,40,105,119,114,99] d) f) (p f (bV .i64 9 d) (bV .i64 d 1) g h i j l o)<|p f s (bV .i64 d 1) g h i j l o) a7)<|u s g h i j l o
def ve (q:rM):Nat->Int->Int->Int->(List eG)->bH->Int->Int->Int->(List eX)->Option (anJ.den⊕anO.den)
 |0,_,_,_,_,_,_,_,_,_=>a7
 |n+1,d,e,f,g,h,i,j,l,o=>an2 q (ve q n) (fun p s u v x y z=>a6 (.inl ((p,()),((),()),((s,u,v,x,y,()),z,())))) (a6 (.inr ((),((),()),()))) d e f g h i j l o
def YB:SQ:=⟨us [ct,.u,.u,.u,.u,bX] 102,cY,bw⟩
def YC:SQ:=⟨us [] 108,cY,[]⟩
def Y1 (q:rM) {f:Type} (h i:Int->(List eG)->bH->Int->Int->Int->(List eX)->Option f) (v:Option f) (g:Int) (j:List eG) (l:bH) (o p s:Int) (u:List eX):Option f:=aZ (WZ j l u o p s) fun d=>cond d.2.1 (aZ (abU d.1.1 d.1.2.1 d.1.2.2.1 d.1.2.2.2.1 d.1.2.2.2.2.1 d.1.2.2.2.2.2.1) fun e=>h g e.1.1 e.1.2.1 e.1.2.2.2.1 e.1.2.2.2.2.1 e.1.2.2.2.2.2.1 e.1.2.2.1)<|i g d.1.1 d.1.2.1 d.1.2.2.2.1 d.1.2.2.2.2.1 d.1.2.2.2.2.2.1 d.1.2.2.1
def iM (q:rM):Nat->Int->(List eG)->bH->Int->Int->Int->(List eX)->Option (YB.den⊕YC.den)
 |0,_,_,_,_,_,_,_=>a7
 |n+1,d,e,f,g,h,i,j=>Y1 q (iM q n) (fun l o p s u v x=>a6 (.inl ((l,()),((),()),((o,p,s,u,v,()),x,())))) (a6 (.inr ((),((),()),()))) d e f g h i j
def ajQ:SQ:=⟨us [ct,.u,.u,.u,.u,bX] 102,cY,bw⟩
def ajW:SQ:=⟨us [] 108,cY,[]⟩
def Y0 (q:rM) {h:Type} (j l:Int->(List eG)->bH->Int->Int->Int->(List eX)->Option h) (y:Option h) (i:Int) (o:List eG) (p:bH) (s u v:Int) (x:List eX):Option h:=aZ (lK o p x s u v [101]) fun d=>cond d.2.1 (aZ (q.q230 d.1.1 d.1.2.1 d.1.2.2.1 (bV .i64 d.1.2.2.2.1 1) d.1.2.2.2.2.1 d.1.2.2.2.2.2.1) fun e=>aZ (lF e.1.1 e.1.2.1 e.1.2.2.1 e.1.2.2.2.1 e.1.2.2.2.2.1 e.1.2.2.2.2.2.1 [116]) fun f=>aZ (q.q230 f.1.1 f.1.2.1 f.1.2.2.1 f.1.2.2.2.1 f.1.2.2.2.2.1 f.1.2.2.2.2.2.1) fun g=>j i g.1.1 g.1.2.1 g.1.2.2.2.1 g.1.2.2.2.2.1 g.1.2.2.2.2.2.1 g.1.2.2.1)<|l i d.1.1 d.1.2.1 d.1.2.2.2.1 d.1.2.2.2.2.1 d.1.2.2.2.2.2.1 d.1.2.2.1
def Aw (q:rM):Nat->Int->(List eG)->bH->Int->Int->Int->(List eX)->Option (ajQ.den⊕ajW.den)
 |0,_,_,_,_,_,_,_=>a7
 |n+1,d,e,f,g,h,i,j=>Y0 q (Aw q n) (fun l o p s u v x=>a6 (.inl ((l,()),((),()),((o,p,s,u,v,()),x,())))) (a6 (.inr ((),((),()),()))) d e f g h i j
def lD (f:YB.den⊕YC.den):Option EX:=dB f (fun d=>aZ (nM d.2.2.1.1 d.2.2.1.2.1 d.2.2.2.1 d.2.2.1.2.2.1 d.2.2.1.2.2.2.1 d.2.2.1.2.2.2.2.1 d.1.1) fun e=>a6 ((e.1.1,(e.1.2.1,(e.1.2.2.1,(e.1.2.2.2.1,(e.1.2.2.2.2.1,(e.1.2.2.2.2.2.1,())))))),())) (fun g=>a7)
def xy (q:rM) (u:List eG) (p:bH) (v:List eX) (s x y:Int):Option EX:=cond (gm p s) (aZ (ve q bD (bU p s) 9 0 u p s x y v) fun z=>dB z (fun g=>aZ (Ag g.2.2.1.1 g.2.2.1.2.1 g.2.2.2.1 g.2.2.1.2.2.1 g.2.2.1.2.2.2.1 g.2.2.1.2.2.2.2.1 g.1.1) fun d=>cond (bC g.1.1 9) (aZ (q.q230 d.1.1 d.1.2.1 d.1.2.2.1 (bV .i64 d.1.2.2.2.1 1) d.1.2.2.2.2.1 d.1.2.2.2.2.2.1) fun e=>aZ (lF e.1.1 e.1.2.1 e.1.2.2.1 e.1.2.2.2.1 e.1.2.2.2.2.1 e.1.2.2.2.2.2.1 [125]) fun f=>aZ (iM q bD d.2.1 f.1.1 f.1.2.1 f.1.2.2.2.1 f.1.2.2.2.2.1 f.1.2.2.2.2.2.1 f.1.2.2.1) fun j=>lD j)<|cond (bC g.1.1 10) (aZ (q.q230 d.1.1 d.1.2.1 d.1.2.2.1 (bV .i64 d.1.2.2.2.1 1) d.1.2.2.2.2.1 d.1.2.2.2.2.2.1) fun e=>aZ (lF e.1.1 e.1.2.1 e.1.2.2.1 e.1.2.2.2.1 e.1.2.2.2.2.1 e.1.2.2.2.2.2.1 [41]) fun f=>aZ (iM q bD d.2.1 f.1.1 f.1.2.1 f.1.2.2.2.1 f.1.2.2.2.2.1 f.1.2.2.2.2.2.1 f.1.2.2.1) fun j=>lD j)<|cond (bC g.1.1 11) (aZ (q.q230 d.1.1 d.1.2.1 d.1.2.2.1 (bV .i64 d.1.2.2.2.1 1) d.1.2.2.2.2.1 d.1.2.2.2.2.2.1) fun e=>aZ (lF e.1.1 e.1.2.1 e.1.2.2.1 e.1.2.2.2.1 e.1.2.2.2.2.1 e.1.2.2.2.2.2.1 [116]) fun f=>aZ (q.q230 f.1.1 f.1.2.1 f.1.2.2.1 f.1.2.2.2.1 f.1.2.2.2.2.1 f.1.2.2.2.2.2.1) fun j=>aZ (Aw q bD d.2.1 j.1.1 j.1.2.1 j.1.2.2.2.1 j.1.2.2.2.2.1 j.1.2.2.2.2.2.1 j.1.2.2.1) fun A=>dB A (fun l=>aZ (lK l.2.2.1.1 l.2.2.1.2.1 l.2.2.2.1 l.2.2.1.2.2.1 l.2.2.1.2.2.2.1 l.2.2.1.2.2.2.2.1 [108]) fun h=>cond h.2.1 (aZ (q.q230 h.1.1 h.1.2.1 h.1.2.2.1 (bV .i64 h.1.2.2.2.1 1) h.1.2.2.2.2.1 h.1.2.2.2.2.2.1) fun i=>aZ (lF i.1.1 i.1.2.1 i.1.2.2.1 i.1.2.2.2.1 i.1.2.2.2.2.1 i.1.2.2.2.2.2.1 [102]) fun o=>aZ (iM q bD l.1.1 o.1.1 o.1.2.1 o.1.2.2.2.1 o.1.2.2.2.2.1 o.1.2.2.2.2.2.1 o.1.2.2.1) fun B=>lD B)<|aZ (lF h.1.1 h.1.2.1 h.1.2.2.1 h.1.2.2.2.1 h.1.2.2.2.2.1 h.1.2.2.2.2.2.1 [102]) fun i=>aZ (iM q bD l.1.1 i.1.1 i.1.2.1 i.1.2.2.2.1 i.1.2.2.2.2.1 i.1.2.2.2.2.2.1 i.1.2.2.1) fun o=>lD o) (fun b7=>a7))<|cond (bC g.1.1 12) (aZ (q.q230 d.1.1 d.1.2.1 d.1.2.2.1 (bV .i64 d.1.2.2.2.1 1) d.1.2.2.2.2.1 d.1.2.2.2.2.2.1) fun e=>aZ (q.q231 e.1.1 e.1.2.1 e.1.2.2.1 e.1.2.2.2.1 e.1.2.2.2.2.1 e.1.2.2.2.2.2.1) fun f=>aZ (iM q bD d.2.1 f.1.1 f.1.2.1 f.1.2.2.2.1 f.1.2.2.2.2.1 f.1.2.2.2.2.2.1 f.1.2.2.1) fun j=>lD j)<|cond (bC g.1.1 13) (aZ (q.q232 d.1.1 d.1.2.1 d.1.2.2.1 (bV .i64 d.1.2.2.2.1 1) d.1.2.2.2.2.1 d.1.2.2.2.2.2.1) fun e=>aZ (iM q bD d.2.1 e.1.1 e.1.2.1 e.1.2.2.2.1 e.1.2.2.2.2.1 e.1.2.2.2.2.2.1 e.1.2.2.1) fun f=>lD f)<|cond (bC g.1.1 14) (aZ (q.q233 d.1.1 d.1.2.1 d.1.2.2.1 (bV .i64 d.1.2.2.2.1 1) d.1.2.2.2.2.1 d.1.2.2.2.2.2.1) fun e=>aZ (iM q bD d.2.1 e.1.1 e.1.2.1 e.1.2.2.2.1 e.1.2.2.2.2.1 e.1.2.2.2.2.2.1 e.1.2.2.1) fun f=>lD f)<|aZ (iM q bD d.2.1 d.1.1 d.1.2.1 (bV .i64 d.1.2.2.2.1 1) d.1.2.2.2.2.1 d.1.2.2.2.2.2.1 d.1.2.2.1) fun e=>lD e) (fun D=>a7)) a7
def anL:SQ:=⟨us bs 112,cY,bw⟩
def anQ:SQ:=⟨us [] 113,cY,[]⟩
def adD (q:rM) {g:Type} (p o:(List eG)->bH->Int->Int->Int->(List eX)->Option g) (s:Option g) (d:List eG) (h:bH) (e i j:Int) (l:List eX):Option g:=cond (gY e (bi d)) (cond (gm d e) (cond (bC (bT d (0,([],(0,(0,())))) e).1 6) (aZ (Kv d h l e i j 7) fun f=>p f.1.1 f.1.2.1 f.1.2.2.2.1 f.1.2.2.2.2.1 f.1.2.2.2.2.2.1 f.1.2.2.1)<|o d h e i j l) a7)<|o d h e i j l
def Gt (q:rM):Nat->(List eG)->bH->Int->Int->Int->(List eX)->Option (anL.den⊕anQ.den)
 |0,_,_,_,_,_,_=>a7
 |n+1,d,e,f,g,h,i=>adD q (Gt q n) (fun j l o p s u=>a6 (.inl ((),((),()),((j,l,o,p,s,()),u,())))) (a6 (.inr ((),((),()),()))) d e f g h i
def FO (l:EX) (q:rM):Option EX:=aZ (lK l.1.1 l.1.2.1 l.1.2.2.1 l.1.2.2.2.1 l.1.2.2.2.2.1 l.1.2.2.2.2.2.1 [59]) fun g=>cond g.2.1 (aZ (qV g.1.1 g.1.2.1 g.1.2.2.1 (bV .i64 g.1.2.2.2.1 1) g.1.2.2.2.2.1 g.1.2.2.2.2.2.1) fun h=>aZ (q.q231 h.1.1 h.1.2.1 h.1.2.2.1 h.1.2.2.2.1 h.1.2.2.2.2.1 h.1.2.2.2.2.2.1) fun d=>a6 ((d.1.1,(d.1.2.1,(d.1.2.2.1,(d.1.2.2.2.1,(d.1.2.2.2.2.1,(d.1.2.2.2.2.2.1,())))))),()))<|aZ (qV g.1.1 g.1.2.1 g.1.2.2.1 g.1.2.2.2.1 g.1.2.2.2.2.1 g.1.2.2.2.2.2.1) fun h=>aZ (lK h.1.1 h.1.2.1 h.1.2.2.1 h.1.2.2.2.1 h.1.2.2.2.2.1 h.1.2.2.2.2.2.1 [107]) fun d=>cond d.2.1 (aZ (Gt q bD d.1.1 d.1.2.1 (bV .i64 d.1.2.2.2.1 1) d.1.2.2.2.2.1 d.1.2.2.2.2.2.1 d.1.2.2.1) fun j=>dB j (fun o=>aZ (lK o.2.2.1.1 o.2.2.1.2.1 o.2.2.2.1 o.2.2.1.2.2.1 o.2.2.1.2.2.2.1 o.2.2.1.2.2.2.2.1 [59]) fun i=>cond i.2.1 (aZ (qV i.1.1 i.1.2.1 i.1.2.2.1 (bV .i64 i.1.2.2.2.1 1) i.1.2.2.2.2.1 i.1.2.2.2.2.2.1) fun e=>aZ (q.q231 e.1.1 e.1.2.1 e.1.2.2.1 e.1.2.2.2.1 e.1.2.2.2.2.1 e.1.2.2.2.2.2.1) fun f=>a6 ((f.1.1,(f.1.2.1,(f.1.2.2.1,(f.1.2.2.2.1,(f.1.2.2.2.2.1,(f.1.2.2.2.2.2.1,())))))),()))<|aZ (qV i.1.1 i.1.2.1 i.1.2.2.1 i.1.2.2.2.1 i.1.2.2.2.2.1 i.1.2.2.2.2.2.1) fun e=>cond (bC e.2.1 0) (aZ (rW e.1.1 e.1.2.1 e.1.2.2.1 e.1.2.2.2.1 e.1.2.2.2.2.1 e.1.2.2.2.2.2.1) fun f=>aZ (q.q231 f.1.1 f.1.2.1 f.1.2.2.1 f.1.2.2.2.1 f.1.2.2.2.2.1 f.1.2.2.2.2.2.1) fun p=>a6 ((p.1.1,(p.1.2.1,(p.1.2.2.1,(p.1.2.2.2.1,(p.1.2.2.2.2.1,(p.1.2.2.2.2.2.1,())))))),()))<|aZ (q.q231 e.1.1 e.1.2.1 e.1.2.2.1 e.1.2.2.2.1 e.1.2.2.2.2.1 e.1.2.2.2.2.2.1) fun f=>a6 ((f.1.1,(f.1.2.1,(f.1.2.2.1,(f.1.2.2.2.1,(f.1.2.2.2.2.1,(f.1.2.2.2.2.2.1,())))))),())) (fun s=>a7))<|aZ (q.q231 d.1.1 d.1.2.1 d.1.2.2.1 d.1.2.2.2.1 d.1.2.2.2.2.1 d.1.2.2.2.2.2.1) fun j=>a6 ((j.1.1,(j.1.2.1,(j.1.2.2.1,(j.1.2.2.2.1,(j.1.2.2.2.2.1,(j.1.2.2.2.2.2.1,())))))),())
def ah4 (q:rM) (d:List eG) (g:bH) (h:List eX) (e i j:Int):Option EX:=cond (gY e (bi d)) (cond (gm d e) (cond (bC (bT d (0,([],(0,(0,())))) e).1 6) (cond (gm d e) (aZ (aii (bT d (0,([],(0,(0,())))) e).2.1) fun f=>cond f.1 (aZ (Kv d g h e i j 7) fun l=>FO l q)<|aZ (rW d g h e i j) fun l=>FO l q) a7)<|aZ (rW d g h e i j) fun f=>FO f q) a7)<|aZ (rW d g h e i j) fun f=>FO f q
def ajR:SQ:=⟨us [ct,.u,.u,bX] 96,cY,bw⟩
def ajX:SQ:=⟨us [] 100,cY,[]⟩
def Y2 (q:rM) {f:Type} (h i:Int->(List eG)->bH->Int->Int->Int->(List eX)->Option f) (v:Option f) (g:Int) (j:List eG) (l:bH) (o p s:Int) (u:List eX):Option f:=aZ (lK j l u o p s [124]) fun d=>cond d.2.1 (aZ (uY d.1.1 d.1.2.1 d.1.2.2.1 (bV .i64 d.1.2.2.2.1 1) d.1.2.2.2.2.1 d.1.2.2.2.2.2.1) fun e=>h g e.1.1 e.1.2.1 e.1.2.2.2.1 e.1.2.2.2.2.1 e.1.2.2.2.2.2.1 e.1.2.2.1)<|i g d.1.1 d.1.2.1 d.1.2.2.2.1 d.1.2.2.2.2.1 d.1.2.2.2.2.2.1 d.1.2.2.1
def uy (q:rM):Nat->Int->(List eG)->bH->Int->Int->Int->(List eX)->Option (ajR.den⊕ajX.den)
 |0,_,_,_,_,_,_,_=>a7
 |n+1,d,e,f,g,h,i,j=>Y2 q (uy q n) (fun l o p s u v x=>a6 (.inl ((l,()),((),()),((o,p,s,u,v,()),x,())))) (a6 (.inr ((),((),()),()))) d e f g h i j
def anM:SQ:=⟨us bs 99,cY,bw⟩
def anR:SQ:=⟨us [] 100,cY,[]⟩
def tX {s:Type} (q:rM) (u:(taF×EO)) (i:EX) (p:Bool->(List eG)->bH->Int->Int->Int->(List eX)->Option s) (v:Option s):Option s:=aZ (uy q bD u.2.1 i.1.1 i.1.2.1 i.1.2.2.2.1 i.1.2.2.2.2.1 i.1.2.2.2.2.2.1 i.1.2.2.1) fun x=>dB x (fun h=>aZ (lF h.2.2.1.1 h.2.2.1.2.1 h.2.2.2.1 h.2.2.1.2.2.1 h.2.2.1.2.2.2.1 h.2.2.1.2.2.2.2.1 [41]) fun j=>aZ (qV j.1.1 j.1.2.1 j.1.2.2.1 j.1.2.2.2.1 j.1.2.2.2.2.1 j.1.2.2.2.2.2.1) fun l=>aZ (Nk l.1.1 l.1.2.1 l.1.2.2.1 l.1.2.2.2.1 l.1.2.2.2.2.1 l.1.2.2.2.2.2.1) fun f=>cond f.2.1 (aZ (q.q52 f.1.1 f.1.2.1 f.1.2.2.1 f.1.2.2.2.1 f.1.2.2.2.2.1 f.1.2.2.2.2.2.1) fun g=>aZ (nM g.1.1 g.1.2.1 g.1.2.2.1 g.1.2.2.2.1 g.1.2.2.2.2.1 g.1.2.2.2.2.2.1 h.1.1) fun d=>aZ (lK d.1.1 d.1.2.1 d.1.2.2.1 d.1.2.2.2.1 d.1.2.2.2.2.1 d.1.2.2.2.2.2.1 [121]) fun e=>cond e.2.1 (aZ (qV e.1.1 e.1.2.1 e.1.2.2.1 (bV .i64 e.1.2.2.2.1 1) e.1.2.2.2.2.1 e.1.2.2.2.2.2.1) fun o=>p e.2.1 o.1.1 o.1.2.1 o.1.2.2.2.1 o.1.2.2.2.2.1 o.1.2.2.2.2.2.1 o.1.2.2.1)<|p e.2.1 e.1.1 e.1.2.1 e.1.2.2.2.1 e.1.2.2.2.2.1 e.1.2.2.2.2.2.1 e.1.2.2.1)<|aZ (nM f.1.1 f.1.2.1 f.1.2.2.1 f.1.2.2.2.1 f.1.2.2.2.2.1 f.1.2.2.2.2.2.1 h.1.1) fun g=>aZ (lK g.1.1 g.1.2.1 g.1.2.2.1 g.1.2.2.2.1 g.1.2.2.2.2.1 g.1.2.2.2.2.2.1 [121]) fun d=>cond d.2.1 (aZ (qV d.1.1 d.1.2.1 d.1.2.2.1 (bV .i64 d.1.2.2.2.1 1) d.1.2.2.2.2.1 d.1.2.2.2.2.2.1) fun e=>p d.2.1 e.1.1 e.1.2.1 e.1.2.2.2.1 e.1.2.2.2.2.1 e.1.2.2.2.2.2.1 e.1.2.2.1)<|p d.2.1 d.1.1 d.1.2.1 d.1.2.2.2.1 d.1.2.2.2.2.1 d.1.2.2.2.2.2.1 d.1.2.2.1) (fun y=>v)
def VP (q:rM) {h:Type} (i:Bool->(List eG)->bH->Int->Int->Int->(List eX)->Option h) (j:(List eG)->bH->Int->Int->Int->(List eX)->Option h) (l:Option h) (z:Bool) (p:List eG) (s:bH) (u v x:Int) (y:List eX):Option h:=cond z (aZ (lK p s y u v x [40]) fun d=>cond d.2.1 (aZ (Ag d.1.1 d.1.2.1 d.1.2.2.1 d.1.2.2.2.1 d.1.2.2.2.2.1 d.1.2.2.2.2.2.1 15) fun e=>aZ (lK e.1.1 e.1.2.1 e.1.2.2.1 e.1.2.2.2.1 e.1.2.2.2.2.1 e.1.2.2.2.2.2.1 [40]) fun f=>cond f.2.1 (aZ (uY f.1.1 f.1.2.1 f.1.2.2.1 (bV .i64 f.1.2.2.2.1 1) f.1.2.2.2.2.1 f.1.2.2.2.2.2.1) fun g=>tX q e g i l)<|aZ (uY f.1.1 f.1.2.1 f.1.2.2.1 f.1.2.2.2.1 f.1.2.2.2.2.1 f.1.2.2.2.2.2.1) fun g=>tX q e g i l)<|cond (gY d.1.2.2.2.1 (bi d.1.1)) (cond (gm d.1.1 d.1.2.2.2.1) (cond (bC (bT d.1.1 (0,([],(0,(0,())))) d.1.2.2.2.1).1 6) (aZ (lK d.1.1 d.1.2.1 d.1.2.2.1 d.1.2.2.2.1 d.1.2.2.2.2.1 d.1.2.2.2.2.2.1 [122]) fun e=>cond (!e.2.1) (aZ (Ag e.1.1 e.1.2.1 e.1.2.2.1 e.1.2.2.2.1 e.1.2.2.2.2.1 e.1.2.2.2.2.2.1 15) fun f=>aZ (lK f.1.1 f.1.2.1 f.1.2.2.1 f.1.2.2.2.1 f.1.2.2.2.2.1 f.1.2.2.2.2.2.1 [40]) fun g=>cond g.2.1 (aZ (uY g.1.1 g.1.2.1 g.1.2.2.1 (bV .i64 g.1.2.2.2.1 1) g.1.2.2.2.2.1 g.1.2.2.2.2.2.1) fun o=>tX q f o i l)<|aZ (uY g.1.1 g.1.2.1 g.1.2.2.1 g.1.2.2.2.1 g.1.2.2.2.2.1 g.1.2.2.2.2.2.1) fun o=>tX q f o i l)<|j e.1.1 e.1.2.1 e.1.2.2.2.1 e.1.2.2.2.2.1 e.1.2.2.2.2.2.1 e.1.2.2.1)<|j d.1.1 d.1.2.1 d.1.2.2.2.1 d.1.2.2.2.2.1 d.1.2.2.2.2.2.1 d.1.2.2.1) a7)<|j d.1.1 d.1.2.1 d.1.2.2.2.1 d.1.2.2.2.2.1 d.1.2.2.2.2.2.1 d.1.2.2.1)<|j p s u v x y
def yS (q:rM):Nat->Bool->(List eG)->bH->Int->Int->Int->(List eX)->Option (anM.den⊕anR.den)
 |0,_,_,_,_,_,_,_=>a7
 |n+1,d,e,f,g,h,i,j=>VP q (yS q n) (fun l o p s u v=>a6 (.inl ((),((),()),((l,o,p,s,u,()),v,())))) (a6 (.inr ((),((),()),()))) d e f g h i j
def ah5 (q:rM) (j:List eG) (l:bH) (o:List eX) (p s u:Int):Option EX:=aZ (uY j l o p s u) fun d=>aZ (qV d.1.1 d.1.2.1 d.1.2.2.1 d.1.2.2.2.1 d.1.2.2.2.2.1 d.1.2.2.2.2.2.1) fun e=>aZ (lF e.1.1 e.1.2.1 e.1.2.2.1 e.1.2.2.2.1 e.1.2.2.2.2.1 e.1.2.2.2.2.2.1 [107]) fun f=>aZ (qV f.1.1 f.1.2.1 f.1.2.2.1 f.1.2.2.2.1 f.1.2.2.2.2.1 f.1.2.2.2.2.2.1) fun g=>aZ (yS q bD true g.1.1 g.1.2.1 g.1.2.2.2.1 g.1.2.2.2.2.1 g.1.2.2.2.2.2.1 g.1.2.2.1) fun v=>dB v (fun h=>aZ (lF h.2.2.1.1 h.2.2.1.2.1 h.2.2.2.1 h.2.2.1.2.2.1 h.2.2.1.2.2.2.1 h.2.2.1.2.2.2.2.1 [122]) fun i=>a6 ((i.1.1,(i.1.2.1,(i.1.2.2.1,(i.1.2.2.2.1,(i.1.2.2.2.2.1,(i.1.2.2.2.2.2.1,())))))),())) (fun x=>a7)
def fO:Nat->rM
 |0=>⟨(fun _ _ _ _ _ _=>a7),(fun _ _ _ _ _ _=>a7),(fun _ _ _ _ _ _=>a7),(fun _ _ _ _ _ _=>a7),(fun _ _ _ _ _ _=>a7),(fun _ _ _ _ _ _=>a7),(fun _ _ _ _ _ _=>a7),(fun _ _ _ _ _ _=>a7),(fun _ _ _ _ _ _=>a7)⟩
 |r+1=>⟨apN (fO r),apP (fO r),ahY (fO r),ahZ (fO r),ah2 (fO r),ah3 (fO r),xy (fO r),ah4 (fO r),ah5 (fO r)⟩
def asM (d:List eG) (e:bH) (f:List eX) (g h i:Int):Option EX:=(fO bD).q52 d e f g h i
def aqQ:SP:=⟨us [.v qE,.u,.u,bL] 57,[]⟩
def aq2:SP:=⟨us [.u,.u,cQ] 58,[]⟩
def akz {e:Type} (i:(List eG)->bH->Int->Option e) (j:(List eG)->bH->Option e) (l:(List eX)->Option e) (d:List eG) (g:bH) (f:Int):Option e:=cond (gY f (bi d)) (cond (gm d f) (aZ (PD (bT d (0,([],(0,(0,())))) f)) fun h=>cond (GV g h.1) (i d (bI g h.1) (bV .i64 f 1)) a7) a7)<|j d g
def NS:Nat->(List eG)->bH->Int->Option (aqQ.den⊕aq2.den)
 |0,_,_,_=>a7
 |n+1,d,e,f=>akz (NS n) (fun g h=>a6 (.inl ((g,h,()),()))) (fun i=>a6 (.inr ((i,()),()))) d e f
def aqR:SP:=⟨us [.u,.u,.u,.u,.u,.ptr 1000024 0,bX] 54,[.arr 1200482 oV,.box 1000024 100 [.v qE,bL,.slc 1200482,bX,bX,bX]]⟩
def aq3:SP:=⟨us [.u,.u,cQ] 58,[]⟩
def akA {i:Type} (j:(List eG)->Int->Int->(List eX)->(List eG)->bH->Int->Int->Int->Option i) (x:Int->(List eX)->(List eG)->bH->Int->Int->Int->Option i) (y:(List eX)->Option i) (g:List eG) (h o:Int) (p:List eX) (q:List eG) (s:bH) (l u v:Int):Option i:=cond (gY l (bi g)) (aZ (lK q s p l u v [110]) fun e=>cond e.2.1 (j g h o e.1.2.2.1 e.1.1 e.1.2.1 (bV .i64 e.1.2.2.2.1 1) e.1.2.2.2.2.1 e.1.2.2.2.2.2.1)<|cond (!(bC o 2)) (aZ (Nk e.1.1 e.1.2.1 e.1.2.2.1 e.1.2.2.2.1 e.1.2.2.2.2.1 e.1.2.2.2.2.2.1) fun d=>cond d.2.1 (aZ (asM d.1.1 d.1.2.1 d.1.2.2.1 d.1.2.2.2.1 d.1.2.2.2.2.1 d.1.2.2.2.2.2.1) fun f=>j g h 2 f.1.2.2.1 f.1.1 f.1.2.1 f.1.2.2.2.1 f.1.2.2.2.2.1 f.1.2.2.2.2.2.1)<|aZ (Kv d.1.1 d.1.2.1 d.1.2.2.1 d.1.2.2.2.1 d.1.2.2.2.2.1 d.1.2.2.2.2.2.1 17) fun f=>j g h 17 f.1.2.2.1 f.1.1 f.1.2.1 f.1.2.2.2.1 f.1.2.2.2.2.1 f.1.2.2.2.2.2.1)<|aZ (Kv e.1.1 e.1.2.1 e.1.2.2.1 e.1.2.2.2.1 e.1.2.2.2.2.1 e.1.2.2.2.2.2.1 17) fun d=>j g h 17 d.1.2.2.1 d.1.1 d.1.2.1 d.1.2.2.2.1 d.1.2.2.2.2.1 d.1.2.2.2.2.2.1)<|x h p q s l u v
def Il:Nat->(List eG)->Int->Int->(List eX)->(List eG)->bH->Int->Int->Int->Option (aqR.den⊕aq3.den)
 |0,_,_,_,_,_,_,_,_,_=>a7
 |n+1,d,e,f,g,h,i,j,l,o=>akA (Il n) (fun p q s u v x y=>a6 (.inl ((p,()),(q,(s,u,v,x,y,()),())))) (fun z=>a6 (.inr ((z,()),()))) d e f g h i j l o
def apQ (g:List eG):Option ((List eX)×Unit):=aZ (NS bD g [] 0) fun h=>dB h (fun f=>aZ (Ag f.1.1 f.1.2.1 [] 0 (-1) 0 1) fun d=>aZ (Il bD f.1.1 d.2.1 0 d.1.2.2.1 d.1.1 d.1.2.1 d.1.2.2.2.1 d.1.2.2.2.2.1 d.1.2.2.2.2.2.1) fun i=>dB i (fun e=>aZ (nM e.2.2.1.1 e.2.2.1.2.1 e.2.1 e.2.2.1.2.2.1 e.2.2.1.2.2.2.1 e.2.2.1.2.2.2.2.1 e.1.1) fun j=>a6 (j.1.2.2.1,())) (fun l=>a6 (l.1.1,()))) (fun o=>a6 (o.1.1,()))
end
end Go.Proofs.YtlhpdcadgbjhiaaGreatDoor
