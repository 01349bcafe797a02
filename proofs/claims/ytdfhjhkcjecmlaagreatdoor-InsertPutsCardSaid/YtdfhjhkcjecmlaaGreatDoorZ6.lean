/- Parts of the proof, joined and shortened by a program: the plain machine, the functions as it prints them, and the mathematics over them. -/
import Derived.Test.YtdfhjhkcjecmlaaGreatDoorZ3
set_option linter.unusedVariables false
set_option linter.unusedSimpArgs false
set_option maxRecDepth 100000
set_option maxHeartbeats 4000000
namespace Go.Proofs.YtdfhjhkcjecmlaaGreatDoor
section
open Option renaming some → a6, none → a7
open Tryz
open Go.RowKit
def aGu (d:Int):Option oJ:=cond (leI 4 d) (a6 ((leI d 12),()))<|some (false,())
def aL0:Sum:=⟨[cZ],KO,fun x=>aGu x.1⟩
theorem aty:dX prog 236 aL0:=qA f236 [] aN
def anm (e:bU):Option zN:=bK (NK e) fun d=>cond (bZ d.1 1) (a6 (97,()))<|cond (bZ d.1 2) (a6 (111,()))<|cond (bZ d.1 3) (a6 (121,()))<|bK (aGu d.1) fun f=>cond f.1 (a6 (60,()))<|cond (!(bZ d.1 0)) (cond (fO e 0) (a6 ((cO e 0),())) a7)<|some (63,())
def aLY:Sum:=⟨[.str],[(.int .u8,false)],fun x=>anm x.1⟩
theorem atw:dX prog 219 aLY:=qA Tryz.f219 [] (sE JH (sE aty aN))
def ack (d:bU):Option zN:=cond (gm d [100,111]) (a6 (100,()))<|cond (gm d [100,111,110,101]) (a6 (103,()))<|cond (gm d [102,111,114]) (a6 (114,()))<|cond (gm d [105,110]) (a6 (107,()))<|cond (gm d [99,97,115,101]) (a6 (99,()))<|cond (gm d [101,115,97,99]) (a6 (122,()))<|some (120,())
def Ue (d:bU):Option zN:=cond (gm d [105,102]) (a6 (105,()))<|cond (gm d [116,104,101,110]) (a6 (116,()))<|cond (gm d [101,108,105,102]) (a6 (101,()))<|cond (gm d [101,108,115,101]) (a6 (108,()))<|cond (gm d [102,105]) (a6 (102,()))<|cond (gm d [119,104,105,108,101]) (cond (gm d [119,104,105,108,101]) (a6 (119,()))<|ack d)<|cond (gm d [117,110,116,105,108]) (a6 (119,()))<|ack d
def ann (d:bU):Option zN:=cond (gm d [33]) (cond (gm d [33]) (cond (fO d 0) (a6 ((cO d 0),())) a7)<|Ue d)<|cond (gm d [123]) (cond (gm d [123]) (cond (fO d 0) (a6 ((cO d 0),())) a7)<|Ue d)<|cond (gm d [125]) (cond (fO d 0) (a6 ((cO d 0),())) a7)<|Ue d
def aLZ:Sum:=⟨[.str],[(.int .u8,false)],fun x=>ann x.1⟩
theorem atx:dX prog 220 aLZ:=qA f220 [] aN
def WG (d:gQ):Option zN:=cond (bZ d.1 2) (a6 (110,()))<|cond (bZ d.1 4) (bK (anm d.2.1) fun e=>a6 (e.1,()))<|cond (bZ d.1 5) (a6 (35,()))<|cond (bZ d.1 6) (bK (ann d.2.1) fun e=>a6 (e.1,()))<|some (63,())
def aLV:Sum:=⟨[tyD],[(.int .u8,false)],fun x=>WG x.1⟩
theorem att:dX prog 201 aLV:=qA f201 [] (sE atw (sE atx aN))
def Ah (d:List gQ) (e:Int) (g:List ig) (h i f:Int):Option (taF×zN):=cond (leI (bM d) (bY .i64 e f)) (a6 ((d,(e,(g,(h,(i,()))))),(0,())))<|cond (fO d (bY .i64 e f)) (bK (WG (dQ d (0,([],(0,(0,())))) (bY .i64 e f))) fun j=>a6 ((d,(e,(g,(h,(i,()))))),(j.1,()))) a7
def amk:gK:=⟨180,J6,[cZ],[.int .u8],fun x y=>Ah x.1 x.2.1 x.2.2.1 x.2.2.2.1 x.2.2.2.2.1 y.1⟩
theorem vG:eP prog 185 amk:=qB [] (sE att aN)
def aag (e:List gQ) (f:Int) (g:List ig) (h i:Int) (j:bU):Option (taF×oJ):=bK (Ah e f g h i 0) fun d=>cond (!(bZ d.2.1 0)) (bK (ag1 j d.2.1) fun l=>a6 ((d.1.1,(d.1.2.1,(d.1.2.2.1,(d.1.2.2.2.1,(d.1.2.2.2.2.1,()))))),((leI 0 l.1),())))<|some ((d.1.1,(d.1.2.1,(d.1.2.2.1,(d.1.2.2.2.1,(d.1.2.2.2.2.1,()))))),(false,()))
def aA9:gK:=⟨180,J6,[.str],[.bool],fun x y=>aag x.1 x.2.1 x.2.2.1 x.2.2.2.1 x.2.2.2.2.1 y.1⟩
theorem Ro:eP prog 184 aA9:=qB [] (sE abe aN) (sF vG aN)
def mi (e:List gQ) (f:Int) (g:List ig) (h i:Int) (j:bU):Option (taF×oJ):=bK (aag e f g h i j) fun d=>cond (!d.2.1) (a6 ((d.1.1,(d.1.2.1,(d.1.2.2.1,(d.1.2.2.2.1,(d.1.2.2.2.2.1,()))))),(false,())))<|some ((d.1.1,((bY .i64 d.1.2.1 1),(d.1.2.2.1,(d.1.2.2.2.1,(d.1.2.2.2.2.1,()))))),(true,()))
def zI:gK:=⟨180,J6,[.str],[.bool],fun x y=>mi x.1 x.2.1 x.2.2.1 x.2.2.2.1 x.2.2.2.2.1 y.1⟩
theorem lH:eP prog 158 zI:=qB [] aN (sF Ro aN)
def ag2 (f:List gQ) (g:Int) (h:List ig) (i j:Int):Option (taF×oJ):=bK (Ah f g h i j 0) fun d=>cond (bZ d.2.1 60) (a6 ((d.1.1,(d.1.2.1,(d.1.2.2.1,(d.1.2.2.2.1,(d.1.2.2.2.2.1,()))))),(true,())))<|cond (bZ d.2.1 35) (bK (Ah d.1.1 d.1.2.1 d.1.2.2.1 d.1.2.2.2.1 d.1.2.2.2.2.1 1) fun e=>a6 ((e.1.1,(e.1.2.1,(e.1.2.2.1,(e.1.2.2.2.1,(e.1.2.2.2.2.1,()))))),((bZ e.2.1 60),())))<|some ((d.1.1,(d.1.2.1,(d.1.2.2.1,(d.1.2.2.2.1,(d.1.2.2.2.2.1,()))))),(false,()))
def aLW:gK:=⟨180,J6,[],[.bool],fun x y=>ag2 x.1 x.2.1 x.2.2.1 x.2.2.2.1 x.2.2.2.2.1⟩
theorem abf:eP prog 202 aLW:=qB [] aN (sF vG aN)
def aah (f:List gQ) (g:Int) (h:List ig) (i e:Int):Option (taF×oJ):=cond (gU e 200) (bK (aag f g h i e [123,40,105,119,114,99]) fun d=>a6 ((d.1.1,(d.1.2.1,(d.1.2.2.1,(d.1.2.2.2.1,(d.1.2.2.2.2.1,()))))),(d.2.1,())))<|some ((f,(g,(h,(i,(e,()))))),(false,()))
def aml:gK:=⟨180,J6,[],[.bool],fun x y=>aah x.1 x.2.1 x.2.2.1 x.2.2.2.1 x.2.2.2.2.1⟩
theorem Rq:eP prog 203 aml:=qB [] aN (sF Ro aN)
def ag0 (g:List gQ) (h:Int) (i:List ig) (j l:Int):Option (taF×oJ):=bK (Ah g h i j l 0) fun d=>cond (bZ d.2.1 120) (a6 ((d.1.1,(d.1.2.1,(d.1.2.2.1,(d.1.2.2.2.1,(d.1.2.2.2.2.1,()))))),(true,())))<|bK (ag2 d.1.1 d.1.2.1 d.1.2.2.1 d.1.2.2.2.1 d.1.2.2.2.2.1) fun e=>cond e.2.1 (a6 ((e.1.1,(e.1.2.1,(e.1.2.2.1,(e.1.2.2.2.1,(e.1.2.2.2.2.1,()))))),(true,())))<|bK (aah e.1.1 e.1.2.1 e.1.2.2.1 e.1.2.2.2.1 e.1.2.2.2.2.1) fun f=>a6 ((f.1.1,(f.1.2.1,(f.1.2.2.1,(f.1.2.2.2.1,(f.1.2.2.2.2.1,()))))),(f.2.1,()))
def aBa:gK:=⟨180,J6,[],[.bool],fun x y=>ag0 x.1 x.2.1 x.2.2.1 x.2.2.2.1 x.2.2.2.2.1⟩
theorem abd:eP prog 186 aBa:=qB [] aN (sF vG (sF abf (sF Rq aN)))
def NP (f:List gQ) (g:Int) (h:List ig) (i j:Int):Option (taF×oJ):=bK (Ah f g h i j 0) fun d=>cond (bZ d.2.1 33) (a6 ((d.1.1,(d.1.2.1,(d.1.2.2.1,(d.1.2.2.2.1,(d.1.2.2.2.2.1,()))))),(true,())))<|bK (ag0 d.1.1 d.1.2.1 d.1.2.2.1 d.1.2.2.2.1 d.1.2.2.2.2.1) fun e=>a6 ((e.1.1,(e.1.2.1,(e.1.2.2.1,(e.1.2.2.2.1,(e.1.2.2.2.2.1,()))))),(e.2.1,()))
def Rk:gK:=⟨180,J6,[],[.bool],fun x y=>NP x.1 x.2.1 x.2.2.1 x.2.2.2.1 x.2.2.2.2.1⟩
theorem DY:eP prog 159 Rk:=qB [] aN (sF vG (sF abd aN))
noncomputable def aIo:Code:=(f188.body).getD .skip
noncomputable def auI:Code:=cA (cA (cA (cB (cB (aIo)))))
def acH:eY:=⟨[0,3,100002],[],[3],[],[2],[]⟩
def adw:SQ:=⟨[cJ,.u,.u,co,.u,.u,.u,.u,.u],ej,eD⟩
def ad7:SQ:=⟨[.u,.u,.u,co,.u,.u,.u,.u,.u],ej,eD⟩
def aeG:SQ:=⟨us [.u,.u,co] 6,ej,[]⟩
def Vd {e:Type} (g h:Bool->(List gQ)->Int->Int->Int->(List ig)->Option e) (p:Bool->Option e) (f:Bool) (i:List gQ) (j l m:Int) (o:List ig):Option e:=bK (mi i j o l m [110]) fun d=>cond d.2.1 (g f d.1.1 d.1.2.1 d.1.2.2.2.1 d.1.2.2.2.2.1 d.1.2.2.1)<|h f d.1.1 d.1.2.1 d.1.2.2.2.1 d.1.2.2.2.2.1 d.1.2.2.1
def Oy:Nat->Bool->(List gQ)->Int->Int->Int->(List ig)->Option (ad7.den⊕aeG.den)
 |0,_,_,_,_,_,_=>a7
 |n+1,d,e,f,g,h,i=>Vd (Oy n) (fun j l m o p q=>a6 (.inl ((j,()),((),()),((l,m,o,p,()),q,())))) (fun s=>a6 (.inr ((s,()),((),()),()))) d e f g h i
def aEa (n:Nat) (v:adw.den):=bo (Oy n) v
noncomputable def aof:dG:=fQ acH adw ad7 aeG (.exit 0) (aEa bV) 6
def qO (f:List gQ) (g:Int) (h:List ig) (i j:Int):Option (taF×oJ):=bK (mi f g h i j [110]) fun d=>bK (Oy bV d.2.1 d.1.1 d.1.2.1 d.1.2.2.2.1 d.1.2.2.2.2.1 d.1.2.2.1) fun l=>dO l (fun e=>a6 ((e.2.2.1.1,(e.2.2.1.2.1,(e.2.2.2.1,(e.2.2.1.2.2.1,(e.2.2.1.2.2.2.1,()))))),(e.1.1,()))) (fun m=>a7)
def FQ:gK:=⟨180,J6,[],[.bool],fun x y=>qO x.1 x.2.1 x.2.2.1 x.2.2.2.1 x.2.2.2.2.1⟩
noncomputable def ajC:Env:=gZ prog tt [] [(188,2,acH)] [(188,2,aof)] [] [(158,zI)]
def apO {d:Type} (a:adw.den->Option d) (b:ad7.den->Option d) (c:aeG.den->Option d) (v:adw.den):Option d:=bo (Vd (bm a) (bm b) (fun e=>c ((e,()),((),()),()))) v
theorem aEV:dY ajC 188 auI aof:=lT (apO) (h2:=by intros;simp only[apO,bm,bo,Vd,dw,dA,bJ,dh,dB])
theorem aJG:dR ajC 188 aIo:=oq [auI] (aD (fM (aEV)) aN)
theorem arn:fH ajC:=eB aN [188] (aD ⟨f188,aIo,by kernel_rfl,by kernel_rfl,aJG⟩ aN) (hx:=(aD lH aN))
theorem sV:eP prog 188 FQ:=sB arn
def jJ:eY:=⟨[0,2,6,7],[],[],[],[],[]⟩
def Ai (g:List gQ) (d:Int) (f:List ig) (e h:Int):Option D5:=cond (bZ 18 18) (cond (bZ d d) (cond (bZ e e) (cond (eH (cu f [(18,(d,(0,(e,()))))]) 32) (cond (bZ 18 18) (cond (bZ d d) (cond (bZ e e) (cond ((bZ 18 18)&&((bZ d d)&&((bZ 0 0)&&((bZ e e)&&true)))) (cond (fO (cu f [(18,(d,(0,(e,()))))]) (bM f)) (cond (pW (dL (bM f)) (cu f [(18,(d,(0,(e,()))))])) (a6 ((g,(d,((iL (cu f [(18,(d,(0,(e,()))))]) (dL (bM f)) ((dU (cu f [(18,(d,(0,(e,()))))]) (0,(0,(0,(0,())))) (dL (bM f))).1,((dU (cu f [(18,(d,(0,(e,()))))]) (0,(0,(0,(0,())))) (dL (bM f))).2.1,(d,((dU (cu f [(18,(d,(0,(e,()))))]) (0,(0,(0,(0,())))) (dL (bM f))).2.2.2.1,()))))),(e,(h,()))))),())) a7) a7) a7) a7) a7) a7) a7) a7) a7) a7
def Rt:gK:=⟨180,J6,[],[],fun x y=>Ai x.1 x.2.1 x.2.2.1 x.2.2.2.1 x.2.2.2.2.1⟩
theorem vH:eP prog 221 Rt:=qB [(221,600000,EE),(118,600003,jJ)] aN
def WH (d:bU):Option oJ:=cond (!(gm d [])) (bK (Wx d 0) fun e=>a6 ((bZ e.1 (bM d)),()))<|some (false,())
def aHB:Sum:=⟨[.str],KO,fun x=>WH x.1⟩
theorem PN:dX prog 66 aHB:=qA f66 [] (sE Rh aN)
def ano (f:List gQ) (g:Int) (h:List ig) (i j:Int):Option (taF×oJ):=bK (Ah f g h i j 0) fun e=>cond (bZ e.2.1 120) (bK (Ah e.1.1 e.1.2.1 e.1.2.2.1 e.1.2.2.2.1 e.1.2.2.2.2.1 1) fun d=>cond (bZ d.2.1 40) (cond (gU d.1.2.2.2.2.1 200) (cond (fO d.1.1 d.1.2.1) (bK (WH (dQ d.1.1 (0,([],(0,(0,())))) d.1.2.1).2.1) fun l=>a6 ((d.1.1,(d.1.2.1,(d.1.2.2.1,(d.1.2.2.2.1,(d.1.2.2.2.2.1,()))))),(l.1,()))) a7)<|some ((d.1.1,(d.1.2.1,(d.1.2.2.1,(d.1.2.2.2.1,(d.1.2.2.2.2.1,()))))),(false,())))<|some ((d.1.1,(d.1.2.1,(d.1.2.2.1,(d.1.2.2.2.1,(d.1.2.2.2.2.1,()))))),(false,())))<|some ((e.1.1,(e.1.2.1,(e.1.2.2.1,(e.1.2.2.2.1,(e.1.2.2.2.2.1,()))))),(false,()))
def aBi:gK:=⟨180,J6,[],[.bool],fun x y=>ano x.1 x.2.1 x.2.2.1 x.2.2.2.1 x.2.2.2.2.1⟩
theorem atz:eP prog 239 aBi:=qB [] (sE PN aN) (sF vG aN)
def aDx:eY:=⟨[1,2],[],[],[],[],[]⟩
def Gz (h:List gQ) (d:Int) (f:List ig) (e i g:Int):Option D5:=cond (bZ g g) (cond (bZ d d) (cond (bZ e e) (cond (eH (cu f [(g,(d,(0,(e,()))))]) 32) (cond (bZ g g) (cond (bZ d d) (cond (bZ e e) (cond ((bZ g g)&&((bZ d d)&&((bZ 0 0)&&((bZ e e)&&true)))) (cond (fO (cu f [(g,(d,(0,(e,()))))]) (bM f)) (cond (pW (dL (bM f)) (cu f [(g,(d,(0,(e,()))))])) (a6 ((h,((bY .i64 d 1),((iL (cu f [(g,(d,(0,(e,()))))]) (dL (bM f)) ((dU (cu f [(g,(d,(0,(e,()))))]) (0,(0,(0,(0,())))) (dL (bM f))).1,((dU (cu f [(g,(d,(0,(e,()))))]) (0,(0,(0,(0,())))) (dL (bM f))).2.1,((bY .i64 d 1),((dU (cu f [(g,(d,(0,(e,()))))]) (0,(0,(0,(0,())))) (dL (bM f))).2.2.2.1,()))))),(e,(i,()))))),())) a7) a7) a7) a7) a7) a7) a7) a7) a7) a7
def afP:gK:=⟨180,J6,[cZ],[],fun x y=>Gz x.1 x.2.1 x.2.2.1 x.2.2.2.1 x.2.2.2.2.1 y.1⟩
theorem JI:eP prog 161 afP:=qB [(161,600001,aDx),(118,600003,jJ)] aN
def RS (d:List gQ) (e:Int) (f:List ig) (g h:Int):Option (taF×oJ):=cond (gU e (bM d)) (cond (fO d e) (a6 ((d,(e,(f,(g,(h,()))))),((bZ (dQ d (0,([],(0,(0,())))) e).1 6),()))) a7)<|some ((d,(e,(f,(g,(h,()))))),(false,()))
def afU:gK:=⟨180,J6,[],[.bool],fun x y=>RS x.1 x.2.1 x.2.2.1 x.2.2.2.1 x.2.2.2.2.1⟩
theorem JL:eP prog 255 afU:=qB [] aN
def RQ (f:List gQ) (g:Int) (h:List ig) (i j:Int):Option D5:=bK (RS f g h i j) fun d=>cond d.2.1 (bK (Gz d.1.1 d.1.2.1 d.1.2.2.1 d.1.2.2.2.1 d.1.2.2.2.2.1 7) fun e=>a6 ((e.1.1,(e.1.2.1,(e.1.2.2.1,(e.1.2.2.2.1,(e.1.2.2.2.2.1,()))))),()))<|bK (Ai d.1.1 d.1.2.1 d.1.2.2.1 d.1.2.2.2.1 d.1.2.2.2.2.1) fun e=>a6 ((e.1.1,(e.1.2.1,(e.1.2.2.1,(e.1.2.2.2.1,(e.1.2.2.2.2.1,()))))),())
def afT:gK:=⟨180,J6,[],[],fun x y=>RQ x.1 x.2.1 x.2.2.1 x.2.2.2.1 x.2.2.2.2.1⟩
theorem JK:eP prog 253 afT:=qB [] aN (sF JI (sF vH (sF JL aN)))
def anH:eY:=⟨[1],[],[],[],[],[]⟩
def Dn (h:List gQ) (i:Int) (j:List ig) (l m:Int):Option (taF×oJ):=bK (ag2 h i j l m) fun d=>cond (!d.2.1) (a6 ((d.1.1,(d.1.2.1,(d.1.2.2.1,(d.1.2.2.2.1,(d.1.2.2.2.2.1,()))))),(false,())))<|cond (bZ 8 8) (cond (bZ d.1.2.1 d.1.2.1) (cond (bZ d.1.2.2.2.1 d.1.2.2.2.1) (cond (eH (cu d.1.2.2.1 [(8,(d.1.2.1,(0,(d.1.2.2.2.1,()))))]) 32) (cond (bZ 8 8) (cond (bZ d.1.2.1 d.1.2.1) (cond (bZ d.1.2.2.2.1 d.1.2.2.2.1) (cond ((bZ 8 8)&&((bZ d.1.2.1 d.1.2.1)&&((bZ 0 0)&&((bZ d.1.2.2.2.1 d.1.2.2.2.1)&&true)))) (bK (mi d.1.1 d.1.2.1 (cu d.1.2.2.1 [(8,(d.1.2.1,(0,(d.1.2.2.2.1,()))))]) (bM d.1.2.2.1) d.1.2.2.2.2.1 [35]) fun f=>bK (mi f.1.1 f.1.2.1 f.1.2.2.1 f.1.2.2.2.1 f.1.2.2.2.2.1 [60]) fun g=>bK (RQ g.1.1 g.1.2.1 g.1.2.2.1 g.1.2.2.2.1 g.1.2.2.2.2.1) fun e=>cond (fO e.1.2.2.1 (bM d.1.2.2.1)) (cond (pW (dL (bM d.1.2.2.1)) e.1.2.2.1) (a6 ((e.1.1,(e.1.2.1,((iL e.1.2.2.1 (dL (bM d.1.2.2.1)) ((dU e.1.2.2.1 (0,(0,(0,(0,())))) (dL (bM d.1.2.2.1))).1,((dU e.1.2.2.1 (0,(0,(0,(0,())))) (dL (bM d.1.2.2.1))).2.1,(e.1.2.1,((dU e.1.2.2.1 (0,(0,(0,(0,())))) (dL (bM d.1.2.2.1))).2.2.2.1,()))))),(d.1.2.2.2.1,(e.1.2.2.2.2.1,()))))),(true,()))) a7) a7) a7) a7) a7) a7) a7) a7) a7) a7
def amn:gK:=⟨180,J6,[],[.bool],fun x y=>Dn x.1 x.2.1 x.2.2.1 x.2.2.2.1 x.2.2.2.2.1⟩
theorem abk:eP prog 252 amn:=qB [(252,600003,anH),(118,600003,jJ)] aN (sF lH (sF abf (sF JK aN)))
def WA (d:bU):Option (bU×bU×Bool×Unit):=bK (Wx d 0) fun e=>cond (bZ e.1 0) (a6 ([],([],(false,()))))<|cond (bZ e.1 (bM d)) (a6 ([],([],(false,()))))<|cond (fO d e.1) (cond (!(bZ (cO d e.1) 61)) (a6 ([],([],(false,()))))<|cond (dZ (bM d) 0 e.1) (cond (dZ (bM d) (bY .i64 e.1 1) (bM d)) (a6 ((sub d 0 e.1),((sub d (bY .i64 e.1 1) (bM d)),(true,())))) a7) a7) a7
def aAI:Sum:=⟨[.str],[(.str,false),(.str,false),(.bool,false)],fun x=>WA x.1⟩
theorem aa0:dX prog 116 aAI:=qA f116 [] (sE Rh aN)
def anq (d:bU):Option oJ:=bK (WA d) fun e=>a6 (e.2.2.1,())
def sum256:Sum:=⟨[.str],KO,fun x=>anq x.1⟩
theorem atB:dX prog 256 sum256:=qA f256 [] (sE aa0 aN)
noncomputable def aIq:Code:=(f242.body).getD .skip
noncomputable def auN:Code:=cA (cA (cB (cB (cA (aIq)))))
def ax0:eY:=⟨[0,2,100003],[],[],[],[],[]⟩
def adB:SQ:=⟨us [cJ,.u,co] 28,ej,eD⟩
def aec:SQ:=⟨us [] 31,ej,eD⟩
def aeL:SQ:=⟨us [] 31,ej,[]⟩
def Vg {h:Type} (i:Bool->(List gQ)->Int->Int->Int->(List ig)->Option h) (l:(List gQ)->Int->Int->Int->(List ig)->Option h) (u:Option h) (j:Bool) (m:List gQ) (o p q:Int) (s:List ig):Option h:=bK (Dn m o s p q) fun e=>cond e.2.1 (i j e.1.1 e.1.2.1 e.1.2.2.2.1 e.1.2.2.2.2.1 e.1.2.2.1)<|bK (RS e.1.1 e.1.2.1 e.1.2.2.1 e.1.2.2.2.1 e.1.2.2.2.2.1) fun d=>cond (!d.2.1) (l d.1.1 d.1.2.1 d.1.2.2.2.1 d.1.2.2.2.2.1 d.1.2.2.1)<|cond (!j) (cond (fO d.1.1 d.1.2.1) (bK (anq (dQ d.1.1 (0,([],(0,(0,())))) d.1.2.1).2.1) fun g=>cond g.1 (bK (Gz d.1.1 d.1.2.1 d.1.2.2.1 d.1.2.2.2.1 d.1.2.2.2.2.1 6) fun f=>i j f.1.1 f.1.2.1 f.1.2.2.2.1 f.1.2.2.2.2.1 f.1.2.2.1)<|bK (Gz d.1.1 d.1.2.1 d.1.2.2.1 d.1.2.2.2.1 d.1.2.2.2.2.1 7) fun f=>i true f.1.1 f.1.2.1 f.1.2.2.2.1 f.1.2.2.2.2.1 f.1.2.2.1) a7)<|bK (Gz d.1.1 d.1.2.1 d.1.2.2.1 d.1.2.2.2.1 d.1.2.2.2.2.1 7) fun g=>i true g.1.1 g.1.2.1 g.1.2.2.2.1 g.1.2.2.2.2.1 g.1.2.2.1
def Jb:Nat->Bool->(List gQ)->Int->Int->Int->(List ig)->Option (aec.den⊕aeL.den)
 |0,_,_,_,_,_,_=>a7
 |n+1,d,e,f,g,h,i=>Vg (Jb n) (fun j l m o p=>a6 (.inl ((),((),()),((j,l,m,o,()),p,())))) (a6 (.inr ((),((),()),()))) d e f g h i
def aEf (n:Nat) (v:adB.den):=bo (Jb n) v
noncomputable def aok:dG:=fQ ax0 adB aec aeL (.exit 0) (aEf bV) 6
def anp (e:List gQ) (f:Int) (g:List ig) (h i:Int):Option D5:=bK (Jb bV false e f h i g) fun j=>dO j (fun d=>a6 ((d.2.2.1.1,(d.2.2.1.2.1,(d.2.2.2.1,(d.2.2.1.2.2.1,(d.2.2.1.2.2.2.1,()))))),())) (fun l=>a7)
def aBk:gK:=⟨180,J6,[],[],fun x y=>anp x.1 x.2.1 x.2.2.1 x.2.2.2.1 x.2.2.2.2.1⟩
noncomputable def ajG:Env:=gZ prog tt [(256,sum256)] [(242,3,ax0)] [(242,3,aok)] [] [(161,afP),(252,amn),(255,afU)]
def apT {d:Type} (a:adB.den->Option d) (b:aec.den->Option d) (c:aeL.den->Option d) (v:adB.den):Option d:=bo (Vg (bm a) (bp b) (c ((),((),()),()))) v
theorem aE0:dY ajG 242 auN aok:=lT (apT) (h2:=by intros;simp only[apT,bm,bp,bo,Vg,dw,dA,bJ,dh,dB])
theorem aJM:dR ajG 242 aIq:=oq [auN] (aD (fM (aE0)) aN)
theorem arA:fH ajG:=eB (aD atB aN) [242] (aD ⟨f242,aIq,by kernel_rfl,by kernel_rfl,aJM⟩ aN) (hx:=(aD JI (aD abk (aD JL aN))))
theorem atA:eP prog 242 aBk:=sB arA
def uD (f:List gQ) (g:Int) (h:List ig) (i j:Int) (l:bU):Option D5:=bK (mi f g h i j l) fun d=>cond (!d.2.1) (bK (Ai d.1.1 d.1.2.1 d.1.2.2.1 d.1.2.2.2.1 d.1.2.2.2.2.1) fun e=>a6 ((e.1.1,(e.1.2.1,(e.1.2.2.1,(e.1.2.2.2.1,(e.1.2.2.2.2.1,()))))),()))<|some ((d.1.1,(d.1.2.1,(d.1.2.2.1,(d.1.2.2.2.1,(d.1.2.2.2.2.1,()))))),())
def Io:gK:=⟨180,J6,[.str],[],fun x y=>uD x.1 x.2.1 x.2.2.1 x.2.2.2.1 x.2.2.2.2.1 y.1⟩
theorem vI:eP prog 254 Io:=qB [] aN (sF lH (sF vH aN))
structure fG where
 q160:(List gQ)->Int->(List ig)->Int->Int->Option D5
 q187:(List gQ)->Int->(List ig)->Int->Int->Option D5
 q204:(List gQ)->Int->(List ig)->Int->Int->Option D5
 q223:(List gQ)->Int->(List ig)->Int->Int->Option D5
 q241:(List gQ)->Int->(List ig)->Int->Int->Option D5
 q238:(List gQ)->Int->(List ig)->Int->Int->Option D5
 q258:(List gQ)->Int->(List ig)->Int->Int->Option D5
 q245:(List gQ)->Int->(List ig)->Int->Int->Option D5
 q246:(List gQ)->Int->(List ig)->Int->Int->Option D5
 q247:(List gQ)->Int->(List ig)->Int->Int->Option D5
 q248:(List gQ)->Int->(List ig)->Int->Int->Option D5
 q249:(List gQ)->Int->(List ig)->Int->Int->Option D5
 q250:(List gQ)->Int->(List ig)->Int->Int->Option D5
 q260:(List gQ)->Int->(List ig)->Int->Int->Option D5
 q259:(List gQ)->Int->(List ig)->Int->Int->Option D5
def afO (q:fG):gK:=⟨180,J6,[],[],fun x y=>q.q160 x.1 x.2.1 x.2.2.1 x.2.2.2.1 x.2.2.2.2.1⟩
def aqd (q:fG):gK:=⟨180,J6,[],[],fun x y=>q.q187 x.1 x.2.1 x.2.2.1 x.2.2.2.1 x.2.2.2.2.1⟩
def aqf (q:fG):gK:=⟨180,J6,[],[],fun x y=>q.q204 x.1 x.2.1 x.2.2.1 x.2.2.2.1 x.2.2.2.2.1⟩
def aqh (q:fG):gK:=⟨180,J6,[],[],fun x y=>q.q223 x.1 x.2.1 x.2.2.1 x.2.2.2.1 x.2.2.2.2.1⟩
def aql (q:fG):gK:=⟨180,J6,[],[],fun x y=>q.q241 x.1 x.2.1 x.2.2.1 x.2.2.2.1 x.2.2.2.2.1⟩
def afS (q:fG):gK:=⟨180,J6,[],[],fun x y=>q.q238 x.1 x.2.1 x.2.2.1 x.2.2.2.1 x.2.2.2.2.1⟩
def JM (q:fG):gK:=⟨180,J6,[],[],fun x y=>q.q258 x.1 x.2.1 x.2.2.1 x.2.2.2.1 x.2.2.2.2.1⟩
def aqm (q:fG):gK:=⟨180,J6,[],[],fun x y=>q.q245 x.1 x.2.1 x.2.2.1 x.2.2.2.1 x.2.2.2.2.1⟩
def aqn (q:fG):gK:=⟨180,J6,[],[],fun x y=>q.q246 x.1 x.2.1 x.2.2.1 x.2.2.2.1 x.2.2.2.2.1⟩
def aqo (q:fG):gK:=⟨180,J6,[],[],fun x y=>q.q247 x.1 x.2.1 x.2.2.1 x.2.2.2.1 x.2.2.2.2.1⟩
def aqp (q:fG):gK:=⟨180,J6,[],[],fun x y=>q.q248 x.1 x.2.1 x.2.2.1 x.2.2.2.1 x.2.2.2.2.1⟩
def aqr (q:fG):gK:=⟨180,J6,[],[],fun x y=>q.q249 x.1 x.2.1 x.2.2.1 x.2.2.2.1 x.2.2.2.2.1⟩
def aqs (q:fG):gK:=⟨180,J6,[],[],fun x y=>q.q250 x.1 x.2.1 x.2.2.1 x.2.2.2.1 x.2.2.2.2.1⟩
def aqu (q:fG):gK:=⟨180,J6,[],[],fun x y=>q.q260 x.1 x.2.1 x.2.2.1 x.2.2.2.1 x.2.2.2.2.1⟩
def afV (q:fG):gK:=⟨180,J6,[],[],fun x y=>q.q259 x.1 x.2.1 x.2.2.1 x.2.2.2.1 x.2.2.2.2.1⟩
noncomputable def aIj:Code:=(f160.body).getD .skip
noncomputable def auB:Code:=cA (cA (cB (cA (aIj))))
def axQ:eY:=⟨[0,100000],[],[],[],[],[]⟩
def ado:SQ:=⟨us cf 15,ej,eD⟩
def ad1:SQ:=⟨us [] 16,ej,eD⟩
def aeA:SQ:=⟨us [] 16,ej,[]⟩
def U5 (q:fG) {l:Type} (o m:(List gQ)->Int->Int->Int->(List ig)->Option l) (u:Option l) (p:List gQ) (h i s:Int) (j:List ig):Option l:=cond (bZ 3 3) (cond (bZ h h) (cond (bZ i i) (cond (eH (cu j [(3,(h,(0,(i,()))))]) 32) (cond (bZ 3 3) (cond (bZ h h) (cond (bZ i i) (cond ((bZ 3 3)&&((bZ h h)&&((bZ 0 0)&&((bZ i i)&&true)))) (bK (q.q187 p h (cu j [(3,(h,(0,(i,()))))]) (bM j) s) fun g=>cond (fO g.1.2.2.1 (bM j)) (cond (pW (dL (bM j)) g.1.2.2.1) (bK (mi g.1.1 g.1.2.1 (iL g.1.2.2.1 (dL (bM j)) ((dU g.1.2.2.1 (0,(0,(0,(0,())))) (dL (bM j))).1,((dU g.1.2.2.1 (0,(0,(0,(0,())))) (dL (bM j))).2.1,(g.1.2.1,((dU g.1.2.2.1 (0,(0,(0,(0,())))) (dL (bM j))).2.2.2.1,()))))) i g.1.2.2.2.2.1 [59,38]) fun f=>cond f.2.1 (bK (qO f.1.1 f.1.2.1 f.1.2.2.1 f.1.2.2.2.1 f.1.2.2.2.2.1) fun e=>bK (NP e.1.1 e.1.2.1 e.1.2.2.1 e.1.2.2.2.1 e.1.2.2.2.2.1) fun d=>cond (!d.2.1) (m d.1.1 d.1.2.1 d.1.2.2.2.1 d.1.2.2.2.2.1 d.1.2.2.1)<|o d.1.1 d.1.2.1 d.1.2.2.2.1 d.1.2.2.2.2.1 d.1.2.2.1)<|bK (qO f.1.1 f.1.2.1 f.1.2.2.1 f.1.2.2.2.1 f.1.2.2.2.2.1) fun e=>cond (!e.2.1) (m e.1.1 e.1.2.1 e.1.2.2.2.1 e.1.2.2.2.2.1 e.1.2.2.1)<|bK (NP e.1.1 e.1.2.1 e.1.2.2.1 e.1.2.2.2.1 e.1.2.2.2.2.1) fun d=>cond (!d.2.1) (m d.1.1 d.1.2.1 d.1.2.2.2.1 d.1.2.2.2.2.1 d.1.2.2.1)<|o d.1.1 d.1.2.1 d.1.2.2.2.1 d.1.2.2.2.2.1 d.1.2.2.1) a7) a7) a7) a7) a7) a7) a7) a7) a7) a7
def Az (q:fG):Nat->(List gQ)->Int->Int->Int->(List ig)->Option (ad1.den⊕aeA.den)
 |0,_,_,_,_,_=>a7
 |n+1,d,e,f,g,h=>U5 q (Az q n) (fun i j l m o=>a6 (.inl ((),((),()),((i,j,l,m,()),o,())))) (a6 (.inr ((),((),()),()))) d e f g h
def aD3 (q:fG) (n:Nat) (v:ado.den):=bq (Az q n) v
noncomputable def an8 (q:fG):dG:=fQ axQ ado ad1 aeA (.exit 0) (aD3 q bV) 6
def awH (q:fG) (e:List gQ) (f:Int) (g:List ig) (h i:Int):Option D5:=bK (Az q bV e f h i g) fun j=>dO j (fun d=>a6 ((d.2.2.1.1,(d.2.2.1.2.1,(d.2.2.2.1,(d.2.2.1.2.2.1,(d.2.2.1.2.2.2.1,()))))),())) (fun l=>a7)
noncomputable def ajv (q:fG):Env:=gZ prog tt [] [(160,0,axQ),(160,600000,EE),(118,600003,jJ)] [(160,0,an8 q)] [] [(158,zI),(159,Rk),(187,aqd q),(188,FQ)]
def apH (q:fG) {d:Type} (a:ado.den->Option d) (b:ad1.den->Option d) (c:aeA.den->Option d) (v:ado.den):Option d:=bq (U5 q (bp a) (bp b) (c ((),((),()),()))) v
theorem aEO (q:fG):dY (ajv q) 160 auB (an8 q):=lT (apH q) (h2:=by intros;simp only[apH,bp,bq,U5,dw,dA,bJ,dh,dB])
theorem aJv (q:fG):dR (ajv q) 160 aIj:=oq [auB] (aD (fM (aEO q)) aN)
abbrev JQ (q:fG):Prop:=eP prog 160 (afO q)/\eP prog 187 (aqd q)/\eP prog 204 (aqf q)/\eP prog 223 (aqh q)/\eP prog 241 (aql q)/\eP prog 238 (afS q)/\eP prog 258 (JM q)/\eP prog 245 (aqm q)/\eP prog 246 (aqn q)/\eP prog 247 (aqo q)/\eP prog 248 (aqp q)/\eP prog 249 (aqr q)/\eP prog 250 (aqs q)/\eP prog 260 (aqu q)/\eP prog 259 (afV q)
theorem aq9 (q:fG) (H:JQ q):fH (ajv q):=eB aN [160] (aD ⟨f160,aIj,by kernel_rfl,by kernel_rfl,aJv q⟩ aN) (hx:=(aD lH (aD DY (aD H.2.1 (aD sV aN)))))
noncomputable def aIn:Code:=(f187.body).getD .skip
noncomputable def auH:Code:=cA (cA (cB (aIn)))
def axV:eY:=⟨[0,100001],[],[],[],[],[]⟩
def adu:SQ:=⟨us cf 9,ej,eD⟩
def ad6:SQ:=⟨us [] 10,ej,eD⟩
def aeF:SQ:=⟨us [] 10,ej,[]⟩
def Vb (q:fG) {g:Type} (h i:(List gQ)->Int->Int->Int->(List ig)->Option g) (s:Option g) (j:List gQ) (l m o:Int) (p:List ig):Option g:=bK (mi j l p m o [97,111]) fun d=>cond d.2.1 (bK (qO d.1.1 d.1.2.1 d.1.2.2.1 d.1.2.2.2.1 d.1.2.2.2.2.1) fun e=>bK (q.q204 e.1.1 e.1.2.1 e.1.2.2.1 e.1.2.2.2.1 e.1.2.2.2.2.1) fun f=>h f.1.1 f.1.2.1 f.1.2.2.2.1 f.1.2.2.2.2.1 f.1.2.2.1)<|i d.1.1 d.1.2.1 d.1.2.2.2.1 d.1.2.2.2.2.1 d.1.2.2.1
def Ox (q:fG):Nat->(List gQ)->Int->Int->Int->(List ig)->Option (ad6.den⊕aeF.den)
 |0,_,_,_,_,_=>a7
 |n+1,d,e,f,g,h=>Vb q (Ox q n) (fun i j l m o=>a6 (.inl ((),((),()),((i,j,l,m,()),o,())))) (a6 (.inr ((),((),()),()))) d e f g h
def aD9 (q:fG) (n:Nat) (v:adu.den):=bq (Ox q n) v
noncomputable def aoe (q:fG):dG:=fQ axV adu ad6 aeF (.exit 0) (aD9 q bV) 6
def awJ (q:fG) (f:List gQ) (g:Int) (h:List ig) (i j:Int):Option D5:=bK (q.q204 f g h i j) fun d=>bK (Ox q bV d.1.1 d.1.2.1 d.1.2.2.2.1 d.1.2.2.2.2.1 d.1.2.2.1) fun l=>dO l (fun e=>a6 ((e.2.2.1.1,(e.2.2.1.2.1,(e.2.2.2.1,(e.2.2.1.2.2.1,(e.2.2.1.2.2.2.1,()))))),())) (fun m=>a7)
noncomputable def ajB (q:fG):Env:=gZ prog tt [] [(187,1,axV)] [(187,1,aoe q)] [] [(158,zI),(188,FQ),(204,aqf q)]
def apN (q:fG) {d:Type} (a:adu.den->Option d) (b:ad6.den->Option d) (c:aeF.den->Option d) (v:adu.den):Option d:=bq (Vb q (bp a) (bp b) (c ((),((),()),()))) v
theorem aEU (q:fG):dY (ajB q) 187 auH (aoe q):=lT (apN q) (h2:=by intros;simp only[apN,bp,bq,Vb,dw,dA,bJ,dh,dB])
theorem aJF (q:fG):dR (ajB q) 187 aIn:=oq [auH] (aD (fM (aEU q)) aN)
theorem arl (q:fG) (H:JQ q):fH (ajB q):=eB aN [187] (aD ⟨f187,aIn,by kernel_rfl,by kernel_rfl,aJF q⟩ aN) (hx:=(aD lH (aD sV (aD H.2.2.1 aN))))
noncomputable def VM:Code:=(f222.body).getD .skip
noncomputable def VW:Code:=cA (cA (cB (cB (VM))))
def WX:eY:=⟨[0,172000002],[],[],[],[],[]⟩
def EX:SQ:=⟨us [dj] 10,ct,[cI,ca,cN]⟩
def Hr:SQ:=⟨us [] 11,ct,[cI,ca,cN]⟩
def HY:SQ:=⟨us [] 11,ct,[]⟩
def Bj (q:fG) {g:Type} (j l:Int->Int->(List gQ)->Int->Int->Int->(List ig)->Option g) (v:Int->Int->Option g) (h i:Int) (m:List gQ) (o p s:Int) (u:List ig):Option g:=bK (mi m o u p s [124]) fun d=>cond d.2.1 (bK (qO d.1.1 d.1.2.1 d.1.2.2.1 d.1.2.2.2.1 d.1.2.2.2.2.1) fun e=>bK (q.q223 e.1.1 e.1.2.1 e.1.2.2.1 e.1.2.2.2.1 e.1.2.2.2.2.1) fun f=>j h i f.1.1 f.1.2.1 f.1.2.2.2.1 f.1.2.2.2.2.1 f.1.2.2.1)<|l h i d.1.1 d.1.2.1 d.1.2.2.2.1 d.1.2.2.2.2.1 d.1.2.2.1
def wV (q:fG):Nat->Int->Int->(List gQ)->Int->Int->Int->(List ig)->Option (Hr.den⊕HY.den)
 |0,_,_,_,_,_,_,_=>a7
 |n+1,d,e,f,g,h,i,j=>Bj q (wV q n) (fun l m o p s u v=>a6 (.inl ((),((l,m,()),(),(),()),((),(o,p,s,u,()),v,())))) (fun x y=>a6 (.inr ((),((x,y,()),(),(),()),()))) d e f g h i j
def ahJ (q:fG) (n:Nat) (v:EX.den):=wV q n v.2.1.1.1 v.2.1.1.2.1 v.2.2.2.1.1 v.2.2.2.1.2.1 v.2.2.2.1.2.2.1 v.2.2.2.1.2.2.2.1 v.2.2.2.2.1
noncomputable def SL (q:fG):dG:=fQ WX EX Hr HY (.exit 0) (ahJ q bV) 6
def agI (q:fG) (h:List gQ) (i:Int) (j:List ig) (l m:Int):Option D5:=bK (NP h i j l m) fun d=>cond (!d.2.1) (bK (Ai d.1.1 d.1.2.1 d.1.2.2.1 d.1.2.2.2.1 d.1.2.2.2.2.1) fun f=>a6 ((f.1.1,(f.1.2.1,(f.1.2.2.1,(f.1.2.2.2.1,(f.1.2.2.2.2.1,()))))),()))<|cond (bZ 4 4) (cond (bZ d.1.2.1 d.1.2.1) (cond (bZ d.1.2.2.2.1 d.1.2.2.2.1) (cond (eH (cu d.1.2.2.1 [(4,(d.1.2.1,(0,(d.1.2.2.2.1,()))))]) 32) (cond (bZ 4 4) (cond (bZ d.1.2.1 d.1.2.1) (cond (bZ d.1.2.2.2.1 d.1.2.2.2.1) (cond ((bZ 4 4)&&((bZ d.1.2.1 d.1.2.1)&&((bZ 0 0)&&((bZ d.1.2.2.2.1 d.1.2.2.2.1)&&true)))) (bK (mi d.1.1 d.1.2.1 (cu d.1.2.2.1 [(4,(d.1.2.1,(0,(d.1.2.2.2.1,()))))]) (bM d.1.2.2.1) d.1.2.2.2.2.1 [33]) fun f=>bK (q.q223 f.1.1 f.1.2.1 f.1.2.2.1 f.1.2.2.2.1 f.1.2.2.2.2.1) fun g=>bK (wV q bV (bM d.1.2.2.1) d.1.2.2.2.1 g.1.1 g.1.2.1 g.1.2.2.2.1 g.1.2.2.2.2.1 g.1.2.2.1) fun o=>dO o (fun e=>cond (fO e.2.2.2.2.1 e.2.1.1.1) (cond (pW (dL e.2.1.1.1) e.2.2.2.2.1) (a6 ((e.2.2.2.1.1,(e.2.2.2.1.2.1,((iL e.2.2.2.2.1 (dL e.2.1.1.1) ((dU e.2.2.2.2.1 (0,(0,(0,(0,())))) (dL e.2.1.1.1)).1,((dU e.2.2.2.2.1 (0,(0,(0,(0,())))) (dL e.2.1.1.1)).2.1,(e.2.2.2.1.2.1,((dU e.2.2.2.2.1 (0,(0,(0,(0,())))) (dL e.2.1.1.1)).2.2.2.1,()))))),(e.2.1.1.2.1,(e.2.2.2.1.2.2.2.1,()))))),())) a7) a7) (fun p=>a7)) a7) a7) a7) a7) a7) a7) a7) a7
noncomputable def ajD (q:fG):Env:=gZ prog tt [] [(222,2,WX),(204,600003,anH),(118,600003,jJ)] [(222,2,SL q)] [] [(158,zI),(159,Rk),(188,FQ),(221,Rt),(223,aqh q)]
def TA (q:fG) {d:Type} (a:EX.den->Option d) (b:Hr.den->Option d) (c:HY.den->Option d) (v:EX.den):Option d:=Bj q (fun e f g h i j l=>a ((),((e,f,()),(),(),()),((),(g,h,i,j,()),l,()))) (fun m o p s u x y=>b ((),((m,o,()),(),(),()),((),(p,s,u,x,()),y,()))) (fun z A=>c ((),((z,A,()),(),(),()),())) v.2.1.1.1 v.2.1.1.2.1 v.2.2.2.1.1 v.2.2.2.1.2.1 v.2.2.2.1.2.2.1 v.2.2.2.1.2.2.2.1 v.2.2.2.2.1
theorem ah1 (q:fG):dY (ajD q) 222 VW (SL q):=lT (TA q) (h2:=by intros;simp only[TA,Bj,dw,dA,bJ,dh,dB])
theorem akt (q:fG):dR (ajD q) 222 VM:=oq [VW] (aD (fM (ah1 q)) aN)
theorem arp (q:fG) (H:JQ q):fH (ajD q):=eB aN [222] (aD ⟨f222,VM,by kernel_rfl,by kernel_rfl,akt q⟩ aN) (hx:=(aD lH (aD DY (aD sV (aD vH (aD H.2.2.2.1 aN))))))
def SA:eY:=⟨[0,1,2],[],[],[],[],[]⟩
def awL (q:fG) (h:List gQ) (i:Int) (j:List ig) (l m:Int):Option D5:=bK (aah h i j l m) fun g=>cond g.2.1 (bK (q.q238 g.1.1 g.1.2.1 g.1.2.2.1 g.1.2.2.2.1 g.1.2.2.2.2.1) fun e=>a6 ((e.1.1,(e.1.2.1,(e.1.2.2.1,(e.1.2.2.2.1,(e.1.2.2.2.2.1,()))))),()))<|bK (ano g.1.1 g.1.2.1 g.1.2.2.1 g.1.2.2.2.1 g.1.2.2.2.2.1) fun e=>cond e.2.1 (cond (bZ 16 16) (cond (bZ e.1.2.1 e.1.2.1) (cond (bZ e.1.2.2.2.1 e.1.2.2.2.1) (cond (eH (cu e.1.2.2.1 [(16,(e.1.2.1,(0,(e.1.2.2.2.1,()))))]) 32) (cond (bZ 16 16) (cond (bZ e.1.2.1 e.1.2.1) (cond (bZ e.1.2.2.2.1 e.1.2.2.2.1) (cond ((bZ 16 16)&&((bZ e.1.2.1 e.1.2.1)&&((bZ 0 0)&&((bZ e.1.2.2.2.1 e.1.2.2.2.1)&&true)))) (bK (q.q241 e.1.1 e.1.2.1 (cu e.1.2.2.1 [(16,(e.1.2.1,(0,(e.1.2.2.2.1,()))))]) (bM e.1.2.2.1) (bY .i64 e.1.2.2.2.2.1 1)) fun d=>cond (fO d.1.2.2.1 (bM e.1.2.2.1)) (cond (pW (dL (bM e.1.2.2.1)) d.1.2.2.1) (a6 ((d.1.1,(d.1.2.1,((iL d.1.2.2.1 (dL (bM e.1.2.2.1)) ((dU d.1.2.2.1 (0,(0,(0,(0,())))) (dL (bM e.1.2.2.1))).1,((dU d.1.2.2.1 (0,(0,(0,(0,())))) (dL (bM e.1.2.2.1))).2.1,(d.1.2.1,((dU d.1.2.2.1 (0,(0,(0,(0,())))) (dL (bM e.1.2.2.1))).2.2.2.1,()))))),(e.1.2.2.2.1,((dV .i64 d.1.2.2.2.2.1 1),()))))),())) a7) a7) a7) a7) a7) a7) a7) a7) a7) a7)<|bK (ag0 e.1.1 e.1.2.1 e.1.2.2.1 e.1.2.2.2.1 e.1.2.2.2.2.1) fun d=>cond d.2.1 (cond (bZ 5 5) (cond (bZ d.1.2.1 d.1.2.1) (cond (bZ d.1.2.2.2.1 d.1.2.2.2.1) (cond (eH (cu d.1.2.2.1 [(5,(d.1.2.1,(0,(d.1.2.2.2.1,()))))]) 32) (cond (bZ 5 5) (cond (bZ d.1.2.1 d.1.2.1) (cond (bZ d.1.2.2.2.1 d.1.2.2.2.1) (cond ((bZ 5 5)&&((bZ d.1.2.1 d.1.2.1)&&((bZ 0 0)&&((bZ d.1.2.2.2.1 d.1.2.2.2.1)&&true)))) (bK (anp d.1.1 d.1.2.1 (cu d.1.2.2.1 [(5,(d.1.2.1,(0,(d.1.2.2.2.1,()))))]) (bM d.1.2.2.1) d.1.2.2.2.2.1) fun f=>cond (fO f.1.2.2.1 (bM d.1.2.2.1)) (cond (pW (dL (bM d.1.2.2.1)) f.1.2.2.1) (a6 ((f.1.1,(f.1.2.1,((iL f.1.2.2.1 (dL (bM d.1.2.2.1)) ((dU f.1.2.2.1 (0,(0,(0,(0,())))) (dL (bM d.1.2.2.1))).1,((dU f.1.2.2.1 (0,(0,(0,(0,())))) (dL (bM d.1.2.2.1))).2.1,(f.1.2.1,((dU f.1.2.2.1 (0,(0,(0,(0,())))) (dL (bM d.1.2.2.1))).2.2.2.1,()))))),(d.1.2.2.2.1,(f.1.2.2.2.2.1,()))))),())) a7) a7) a7) a7) a7) a7) a7) a7) a7) a7)<|bK (Ai d.1.1 d.1.2.1 d.1.2.2.1 d.1.2.2.2.1 d.1.2.2.2.2.1) fun f=>a6 ((f.1.1,(f.1.2.1,(f.1.2.2.1,(f.1.2.2.2.1,(f.1.2.2.2.2.1,()))))),())
noncomputable def aIF (q:fG):Env:=gZ prog tt [] [(223,600004,EE),(223,600006,EE),(118,600003,jJ),(240,600001,SA)] [] [] [(186,aBa),(203,aml),(221,Rt),(238,afS q),(239,aBi),(241,aql q),(242,aBk)]
theorem art (q:fG) (H:JQ q):fH (aIF q):=eB aN [] aN (hx:=(aD abd (aD Rq (aD vH (aD H.2.2.2.2.2.1 (aD atz (aD H.2.2.2.2.1 (aD atA aN))))))))
def awQ (q:fG) (j:List gQ) (l:Int) (m:List ig) (o p:Int):Option D5:=bK (RQ j l m o p) fun f=>bK (mi f.1.1 f.1.2.1 f.1.2.2.1 f.1.2.2.2.1 f.1.2.2.2.2.1 [40]) fun g=>bK (uD g.1.1 g.1.2.1 g.1.2.2.1 g.1.2.2.2.1 g.1.2.2.2.2.1 [41]) fun h=>bK (qO h.1.1 h.1.2.1 h.1.2.2.1 h.1.2.2.2.1 h.1.2.2.2.2.1) fun i=>bK (aah i.1.1 i.1.2.1 i.1.2.2.1 i.1.2.2.2.1 i.1.2.2.2.2.1) fun d=>cond d.2.1 (bK (q.q238 d.1.1 d.1.2.1 d.1.2.2.1 d.1.2.2.2.1 d.1.2.2.2.2.1) fun e=>a6 ((e.1.1,(e.1.2.1,(e.1.2.2.1,(e.1.2.2.2.1,(e.1.2.2.2.2.1,()))))),()))<|bK (Ai d.1.1 d.1.2.1 d.1.2.2.1 d.1.2.2.2.1 d.1.2.2.2.2.1) fun e=>a6 ((e.1.1,(e.1.2.1,(e.1.2.2.1,(e.1.2.2.2.1,(e.1.2.2.2.2.1,()))))),())
noncomputable def aII (q:fG):Env:=gZ prog tt [] [] [] [] [(158,zI),(188,FQ),(203,aml),(221,Rt),(238,afS q),(253,afT),(254,Io)]
theorem arz (q:fG) (H:JQ q):fH (aII q):=eB aN [] aN (hx:=(aD lH (aD sV (aD Rq (aD vH (aD H.2.2.2.2.2.1 (aD JK (aD vI aN))))))))
noncomputable def VN:Code:=(f251.body).getD .skip
noncomputable def o9:Code:=cA (cA (cB (cB (VN))))
def rQ:eY:=⟨[0,192000002],[],[],[],[],[]⟩
def aye:eY:=⟨[1,2,3],[],[],[],[],[]⟩
def EY:SQ:=⟨gb,bX,fm⟩
def Ht:SQ:=⟨eW,bX,fm⟩
def H5:SQ:=⟨eW,bX,[]⟩
def xm (q:fG) {e:Type} (m o:Int->Int->Int->Int->Int->Int->(List ig)->(List gQ)->Int->Int->Int->Option e) (y:Int->Int->Int->Int->Int->Int->Option e) (f g h i j l:Int) (p:List ig) (s:List gQ) (u v x:Int):Option e:=bK (Dn s u p v x) fun d=>cond d.2.1 (m f g h i j l d.1.2.2.1 d.1.1 d.1.2.1 d.1.2.2.2.1 d.1.2.2.2.2.1)<|o f g h i j l d.1.2.2.1 d.1.1 d.1.2.1 d.1.2.2.2.1 d.1.2.2.2.2.1
def pI (q:fG):Nat->Int->Int->Int->Int->Int->Int->(List ig)->(List gQ)->Int->Int->Int->Option (Ht.den⊕H5.den)
 |0,_,_,_,_,_,_,_,_,_,_,_=>a7
 |n+1,d,e,f,g,h,i,j,l,m,o,p=>xm q (pI q n) (fun s u v x y z A B D E G=>a6 (.inl ((),((s,u,()),(v,x,()),(y,z,()),(),()),((),(),A,(B,D,E,G,()),())))) (fun I J K L M N=>a6 (.inr ((),((I,J,()),(K,L,()),(M,N,()),(),()),()))) d e f g h i j l m o p
def ahK (q:fG) (n:Nat) (v:EY.den):=bv (pI q n) v
noncomputable def GV (q:fG):dG:=fQ rQ EY Ht H5 (.exit 0) (ahK q bV) 6
def xN:SQ:=⟨gb,bX,fp⟩
def BQ:SQ:=⟨eW,bX,fp⟩
def Cb:SQ:=⟨eW,bX,[]⟩
def qV (q:fG) {e:Type} (m o:Int->Int->Int->Int->Int->Int->(List ig)->(List gQ)->Int->Int->Int->Option e) (y:Int->Int->Int->Int->Int->Int->Option e) (f g h i j l:Int) (p:List ig) (s:List gQ) (u v x:Int):Option e:=bK (Dn s u p v x) fun d=>cond d.2.1 (m f g h i j l d.1.2.2.1 d.1.1 d.1.2.1 d.1.2.2.2.1 d.1.2.2.2.2.1)<|o f g h i j l d.1.2.2.1 d.1.1 d.1.2.1 d.1.2.2.2.1 d.1.2.2.2.2.1
def lX (q:fG):Nat->Int->Int->Int->Int->Int->Int->(List ig)->(List gQ)->Int->Int->Int->Option (BQ.den⊕Cb.den)
 |0,_,_,_,_,_,_,_,_,_,_,_=>a7
 |n+1,d,e,f,g,h,i,j,l,m,o,p=>qV q (lX q n) (fun s u v x y z A B D E G=>a6 (.inl ((),((s,u,()),(v,x,()),(y,z,()),(),()),((),(),A,(B,D,E,G,()),())))) (fun I J K L M N=>a6 (.inr ((),((I,J,()),(K,L,()),(M,N,()),(),()),()))) d e f g h i j l m o p
def Y9 (q:fG) (n:Nat) (v:xN.den):=bv (lX q n) v
noncomputable def BI (q:fG):dG:=fQ rQ xN BQ Cb (.exit 0) (Y9 q bV) 12
def xO:SQ:=⟨gb,bX,fq⟩
def BR:SQ:=⟨eW,bX,fq⟩
def Cc:SQ:=⟨eW,bX,[]⟩
def qW (q:fG) {e:Type} (m o:Int->Int->Int->Int->Int->Int->(List ig)->(List gQ)->Int->Int->Int->Option e) (y:Int->Int->Int->Int->Int->Int->Option e) (f g h i j l:Int) (p:List ig) (s:List gQ) (u v x:Int):Option e:=bK (Dn s u p v x) fun d=>cond d.2.1 (m f g h i j l d.1.2.2.1 d.1.1 d.1.2.1 d.1.2.2.2.1 d.1.2.2.2.2.1)<|o f g h i j l d.1.2.2.1 d.1.1 d.1.2.1 d.1.2.2.2.1 d.1.2.2.2.2.1
def lY (q:fG):Nat->Int->Int->Int->Int->Int->Int->(List ig)->(List gQ)->Int->Int->Int->Option (BR.den⊕Cc.den)
 |0,_,_,_,_,_,_,_,_,_,_,_=>a7
 |n+1,d,e,f,g,h,i,j,l,m,o,p=>qW q (lY q n) (fun s u v x y z A B D E G=>a6 (.inl ((),((s,u,()),(v,x,()),(y,z,()),(),()),((),(),A,(B,D,E,G,()),())))) (fun I J K L M N=>a6 (.inr ((),((I,J,()),(K,L,()),(M,N,()),(),()),()))) d e f g h i j l m o p
def Za (q:fG) (n:Nat) (v:xO.den):=bv (lY q n) v
noncomputable def BJ (q:fG):dG:=fQ rQ xO BR Cc (.exit 0) (Za q bV) 18
def xP:SQ:=⟨gb,bX,fu⟩
def BU:SQ:=⟨eW,bX,fu⟩
def Ce:SQ:=⟨eW,bX,[]⟩
def qX (q:fG) {e:Type} (m o:Int->Int->Int->Int->Int->Int->(List ig)->(List gQ)->Int->Int->Int->Option e) (y:Int->Int->Int->Int->Int->Int->Option e) (f g h i j l:Int) (p:List ig) (s:List gQ) (u v x:Int):Option e:=bK (Dn s u p v x) fun d=>cond d.2.1 (m f g h i j l d.1.2.2.1 d.1.1 d.1.2.1 d.1.2.2.2.1 d.1.2.2.2.2.1)<|o f g h i j l d.1.2.2.1 d.1.1 d.1.2.1 d.1.2.2.2.1 d.1.2.2.2.2.1
def lZ (q:fG):Nat->Int->Int->Int->Int->Int->Int->(List ig)->(List gQ)->Int->Int->Int->Option (BU.den⊕Ce.den)
 |0,_,_,_,_,_,_,_,_,_,_,_=>a7
 |n+1,d,e,f,g,h,i,j,l,m,o,p=>qX q (lZ q n) (fun s u v x y z A B D E G=>a6 (.inl ((),((s,u,()),(v,x,()),(y,z,()),(),()),((),(),A,(B,D,E,G,()),())))) (fun I J K L M N=>a6 (.inr ((),((I,J,()),(K,L,()),(M,N,()),(),()),()))) d e f g h i j l m o p
def Zb (q:fG) (n:Nat) (v:xP.den):=bv (lZ q n) v
noncomputable def BK (q:fG):dG:=fQ rQ xP BU Ce (.exit 0) (Zb q bV) 24
def xQ:SQ:=⟨gb,bX,fw⟩
def BV:SQ:=⟨eW,bX,fw⟩
def Cf:SQ:=⟨eW,bX,[]⟩
def qY (q:fG) {e:Type} (m o:Int->Int->Int->Int->Int->Int->(List ig)->(List gQ)->Int->Int->Int->Option e) (y:Int->Int->Int->Int->Int->Int->Option e) (f g h i j l:Int) (p:List ig) (s:List gQ) (u v x:Int):Option e:=bK (Dn s u p v x) fun d=>cond d.2.1 (m f g h i j l d.1.2.2.1 d.1.1 d.1.2.1 d.1.2.2.2.1 d.1.2.2.2.2.1)<|o f g h i j l d.1.2.2.1 d.1.1 d.1.2.1 d.1.2.2.2.1 d.1.2.2.2.2.1
def l9 (q:fG):Nat->Int->Int->Int->Int->Int->Int->(List ig)->(List gQ)->Int->Int->Int->Option (BV.den⊕Cf.den)
 |0,_,_,_,_,_,_,_,_,_,_,_=>a7
 |n+1,d,e,f,g,h,i,j,l,m,o,p=>qY q (l9 q n) (fun s u v x y z A B D E G=>a6 (.inl ((),((s,u,()),(v,x,()),(y,z,()),(),()),((),(),A,(B,D,E,G,()),())))) (fun I J K L M N=>a6 (.inr ((),((I,J,()),(K,L,()),(M,N,()),(),()),()))) d e f g h i j l m o p
def Zc (q:fG) (n:Nat) (v:xQ.den):=bv (l9 q n) v
noncomputable def BL (q:fG):dG:=fQ rQ xQ BV Cf (.exit 0) (Zc q bV) 30
def xR:SQ:=⟨gb,bX,fx⟩
def BX:SQ:=⟨eW,bX,fx⟩
def Ci:SQ:=⟨eW,bX,[]⟩
def qZ (q:fG) {e:Type} (m o:Int->Int->Int->Int->Int->Int->(List ig)->(List gQ)->Int->Int->Int->Option e) (y:Int->Int->Int->Int->Int->Int->Option e) (f g h i j l:Int) (p:List ig) (s:List gQ) (u v x:Int):Option e:=bK (Dn s u p v x) fun d=>cond d.2.1 (m f g h i j l d.1.2.2.1 d.1.1 d.1.2.1 d.1.2.2.2.1 d.1.2.2.2.2.1)<|o f g h i j l d.1.2.2.1 d.1.1 d.1.2.1 d.1.2.2.2.1 d.1.2.2.2.2.1
def mf (q:fG):Nat->Int->Int->Int->Int->Int->Int->(List ig)->(List gQ)->Int->Int->Int->Option (BX.den⊕Ci.den)
 |0,_,_,_,_,_,_,_,_,_,_,_=>a7
 |n+1,d,e,f,g,h,i,j,l,m,o,p=>qZ q (mf q n) (fun s u v x y z A B D E G=>a6 (.inl ((),((s,u,()),(v,x,()),(y,z,()),(),()),((),(),A,(B,D,E,G,()),())))) (fun I J K L M N=>a6 (.inr ((),((I,J,()),(K,L,()),(M,N,()),(),()),()))) d e f g h i j l m o p
def Zd (q:fG) (n:Nat) (v:xR.den):=bv (mf q n) v
noncomputable def BM (q:fG):dG:=fQ rQ xR BX Ci (.exit 0) (Zd q bV) 36
def Di (q:fG) (i:List gQ) (j:Int) (l:List ig) (m o:Int):Option D5:=bK (cond (bZ 9 9) (cond ((((bZ 9 9)&&true)&&(((oV og l l)&&(((oV tyD i i)&&((bZ j j)&&((bZ m m)&&((bZ o o)&&true))))&&true))&&true))&&true) (a6 ()) (a7)) (a7)) fun p=>bK (Ah i j l m o 0) fun d=>cond (bZ d.2.1 40) (cond (bZ 10 10) (cond (bZ d.1.2.1 d.1.2.1) (cond (bZ d.1.2.2.2.1 d.1.2.2.2.1) (cond (eH (cu d.1.2.2.1 [(10,(d.1.2.1,(0,(d.1.2.2.2.1,()))))]) 32) (cond (bZ 10 10) (cond (bZ d.1.2.1 d.1.2.1) (cond (bZ d.1.2.2.2.1 d.1.2.2.2.1) (cond ((bZ 10 10)&&((bZ d.1.2.1 d.1.2.1)&&((bZ 0 0)&&((bZ d.1.2.2.2.1 d.1.2.2.2.1)&&true)))) (bK (q.q246 d.1.1 (bY .i64 d.1.2.1 1) (cu d.1.2.2.1 [(10,(d.1.2.1,(0,(d.1.2.2.2.1,()))))]) (bM d.1.2.2.1) (bY .i64 d.1.2.2.2.2.1 1)) fun f=>bK (pI q bV (bM d.1.2.2.1) d.1.2.2.2.1 10 10 10 10 f.1.2.2.1 f.1.1 f.1.2.1 f.1.2.2.2.1 f.1.2.2.2.2.1) fun g=>dO g (fun e=>cond (fO e.2.2.2.2.1 e.2.1.1.1) (cond (pW (dL e.2.1.1.1) e.2.2.2.2.1) (a6 ((e.2.2.2.2.2.1.1,(e.2.2.2.2.2.1.2.1,((iL e.2.2.2.2.1 (dL e.2.1.1.1) ((dU e.2.2.2.2.1 (0,(0,(0,(0,())))) (dL e.2.1.1.1)).1,((dU e.2.2.2.2.1 (0,(0,(0,(0,())))) (dL e.2.1.1.1)).2.1,(e.2.2.2.2.2.1.2.1,((dU e.2.2.2.2.1 (0,(0,(0,(0,())))) (dL e.2.1.1.1)).2.2.2.1,()))))),(e.2.1.1.2.1,((dV .i64 e.2.2.2.2.2.1.2.2.2.1 1),()))))),())) a7) a7) (fun h=>a7)) a7) a7) a7) a7) a7) a7) a7) a7)<|cond (bZ d.2.1 105) (cond (bZ 11 11) (cond (bZ d.1.2.1 d.1.2.1) (cond (bZ d.1.2.2.2.1 d.1.2.2.2.1) (cond (eH (cu d.1.2.2.1 [(11,(d.1.2.1,(0,(d.1.2.2.2.1,()))))]) 32) (cond (bZ 11 11) (cond (bZ d.1.2.1 d.1.2.1) (cond (bZ d.1.2.2.2.1 d.1.2.2.2.1) (cond ((bZ 11 11)&&((bZ d.1.2.1 d.1.2.1)&&((bZ 0 0)&&((bZ d.1.2.2.2.1 d.1.2.2.2.1)&&true)))) (bK (q.q247 d.1.1 (bY .i64 d.1.2.1 1) (cu d.1.2.2.1 [(11,(d.1.2.1,(0,(d.1.2.2.2.1,()))))]) (bM d.1.2.2.1) (bY .i64 d.1.2.2.2.2.1 1)) fun f=>bK (lX q bV (bM d.1.2.2.1) d.1.2.2.2.1 11 11 11 11 f.1.2.2.1 f.1.1 f.1.2.1 f.1.2.2.2.1 f.1.2.2.2.2.1) fun g=>dO g (fun e=>cond (fO e.2.2.2.2.1 e.2.1.1.1) (cond (pW (dL e.2.1.1.1) e.2.2.2.2.1) (a6 ((e.2.2.2.2.2.1.1,(e.2.2.2.2.2.1.2.1,((iL e.2.2.2.2.1 (dL e.2.1.1.1) ((dU e.2.2.2.2.1 (0,(0,(0,(0,())))) (dL e.2.1.1.1)).1,((dU e.2.2.2.2.1 (0,(0,(0,(0,())))) (dL e.2.1.1.1)).2.1,(e.2.2.2.2.2.1.2.1,((dU e.2.2.2.2.1 (0,(0,(0,(0,())))) (dL e.2.1.1.1)).2.2.2.1,()))))),(e.2.1.1.2.1,((dV .i64 e.2.2.2.2.2.1.2.2.2.1 1),()))))),())) a7) a7) (fun h=>a7)) a7) a7) a7) a7) a7) a7) a7) a7)<|cond (bZ d.2.1 119) (cond (bZ 12 12) (cond (bZ d.1.2.1 d.1.2.1) (cond (bZ d.1.2.2.2.1 d.1.2.2.2.1) (cond (eH (cu d.1.2.2.1 [(12,(d.1.2.1,(0,(d.1.2.2.2.1,()))))]) 32) (cond (bZ 12 12) (cond (bZ d.1.2.1 d.1.2.1) (cond (bZ d.1.2.2.2.1 d.1.2.2.2.1) (cond ((bZ 12 12)&&((bZ d.1.2.1 d.1.2.1)&&((bZ 0 0)&&((bZ d.1.2.2.2.1 d.1.2.2.2.1)&&true)))) (bK (q.q248 d.1.1 (bY .i64 d.1.2.1 1) (cu d.1.2.2.1 [(12,(d.1.2.1,(0,(d.1.2.2.2.1,()))))]) (bM d.1.2.2.1) (bY .i64 d.1.2.2.2.2.1 1)) fun f=>bK (lY q bV (bM d.1.2.2.1) d.1.2.2.2.1 12 12 12 12 f.1.2.2.1 f.1.1 f.1.2.1 f.1.2.2.2.1 f.1.2.2.2.2.1) fun g=>dO g (fun e=>cond (fO e.2.2.2.2.1 e.2.1.1.1) (cond (pW (dL e.2.1.1.1) e.2.2.2.2.1) (a6 ((e.2.2.2.2.2.1.1,(e.2.2.2.2.2.1.2.1,((iL e.2.2.2.2.1 (dL e.2.1.1.1) ((dU e.2.2.2.2.1 (0,(0,(0,(0,())))) (dL e.2.1.1.1)).1,((dU e.2.2.2.2.1 (0,(0,(0,(0,())))) (dL e.2.1.1.1)).2.1,(e.2.2.2.2.2.1.2.1,((dU e.2.2.2.2.1 (0,(0,(0,(0,())))) (dL e.2.1.1.1)).2.2.2.1,()))))),(e.2.1.1.2.1,((dV .i64 e.2.2.2.2.2.1.2.2.2.1 1),()))))),())) a7) a7) (fun h=>a7)) a7) a7) a7) a7) a7) a7) a7) a7)<|cond (bZ d.2.1 114) (cond (bZ 13 13) (cond (bZ d.1.2.1 d.1.2.1) (cond (bZ d.1.2.2.2.1 d.1.2.2.2.1) (cond (eH (cu d.1.2.2.1 [(13,(d.1.2.1,(0,(d.1.2.2.2.1,()))))]) 32) (cond (bZ 13 13) (cond (bZ d.1.2.1 d.1.2.1) (cond (bZ d.1.2.2.2.1 d.1.2.2.2.1) (cond ((bZ 13 13)&&((bZ d.1.2.1 d.1.2.1)&&((bZ 0 0)&&((bZ d.1.2.2.2.1 d.1.2.2.2.1)&&true)))) (bK (q.q249 d.1.1 (bY .i64 d.1.2.1 1) (cu d.1.2.2.1 [(13,(d.1.2.1,(0,(d.1.2.2.2.1,()))))]) (bM d.1.2.2.1) (bY .i64 d.1.2.2.2.2.1 1)) fun f=>bK (lZ q bV (bM d.1.2.2.1) d.1.2.2.2.1 13 13 13 13 f.1.2.2.1 f.1.1 f.1.2.1 f.1.2.2.2.1 f.1.2.2.2.2.1) fun g=>dO g (fun e=>cond (fO e.2.2.2.2.1 e.2.1.1.1) (cond (pW (dL e.2.1.1.1) e.2.2.2.2.1) (a6 ((e.2.2.2.2.2.1.1,(e.2.2.2.2.2.1.2.1,((iL e.2.2.2.2.1 (dL e.2.1.1.1) ((dU e.2.2.2.2.1 (0,(0,(0,(0,())))) (dL e.2.1.1.1)).1,((dU e.2.2.2.2.1 (0,(0,(0,(0,())))) (dL e.2.1.1.1)).2.1,(e.2.2.2.2.2.1.2.1,((dU e.2.2.2.2.1 (0,(0,(0,(0,())))) (dL e.2.1.1.1)).2.2.2.1,()))))),(e.2.1.1.2.1,((dV .i64 e.2.2.2.2.2.1.2.2.2.1 1),()))))),())) a7) a7) (fun h=>a7)) a7) a7) a7) a7) a7) a7) a7) a7)<|cond (bZ d.2.1 99) (cond (bZ 14 14) (cond (bZ d.1.2.1 d.1.2.1) (cond (bZ d.1.2.2.2.1 d.1.2.2.2.1) (cond (eH (cu d.1.2.2.1 [(14,(d.1.2.1,(0,(d.1.2.2.2.1,()))))]) 32) (cond (bZ 14 14) (cond (bZ d.1.2.1 d.1.2.1) (cond (bZ d.1.2.2.2.1 d.1.2.2.2.1) (cond ((bZ 14 14)&&((bZ d.1.2.1 d.1.2.1)&&((bZ 0 0)&&((bZ d.1.2.2.2.1 d.1.2.2.2.1)&&true)))) (bK (q.q250 d.1.1 (bY .i64 d.1.2.1 1) (cu d.1.2.2.1 [(14,(d.1.2.1,(0,(d.1.2.2.2.1,()))))]) (bM d.1.2.2.1) (bY .i64 d.1.2.2.2.2.1 1)) fun f=>bK (l9 q bV (bM d.1.2.2.1) d.1.2.2.2.1 14 14 14 14 f.1.2.2.1 f.1.1 f.1.2.1 f.1.2.2.2.1 f.1.2.2.2.2.1) fun g=>dO g (fun e=>cond (fO e.2.2.2.2.1 e.2.1.1.1) (cond (pW (dL e.2.1.1.1) e.2.2.2.2.1) (a6 ((e.2.2.2.2.2.1.1,(e.2.2.2.2.2.1.2.1,((iL e.2.2.2.2.1 (dL e.2.1.1.1) ((dU e.2.2.2.2.1 (0,(0,(0,(0,())))) (dL e.2.1.1.1)).1,((dU e.2.2.2.2.1 (0,(0,(0,(0,())))) (dL e.2.1.1.1)).2.1,(e.2.2.2.2.2.1.2.1,((dU e.2.2.2.2.1 (0,(0,(0,(0,())))) (dL e.2.1.1.1)).2.2.2.1,()))))),(e.2.1.1.2.1,((dV .i64 e.2.2.2.2.2.1.2.2.2.1 1),()))))),())) a7) a7) (fun h=>a7)) a7) a7) a7) a7) a7) a7) a7) a7)<|cond (bZ 9 9) (cond (bZ d.1.2.1 d.1.2.1) (cond (bZ d.1.2.2.2.1 d.1.2.2.2.1) (cond (eH (cu d.1.2.2.1 [(9,(d.1.2.1,(0,(d.1.2.2.2.1,()))))]) 32) (cond (bZ 9 9) (cond (bZ d.1.2.1 d.1.2.1) (cond (bZ d.1.2.2.2.1 d.1.2.2.2.1) (cond ((bZ 9 9)&&((bZ d.1.2.1 d.1.2.1)&&((bZ 0 0)&&((bZ d.1.2.2.2.1 d.1.2.2.2.1)&&true)))) (bK (q.q245 d.1.1 (bY .i64 d.1.2.1 1) (cu d.1.2.2.1 [(9,(d.1.2.1,(0,(d.1.2.2.2.1,()))))]) (bM d.1.2.2.1) (bY .i64 d.1.2.2.2.2.1 1)) fun f=>bK (mf q bV (bM d.1.2.2.1) d.1.2.2.2.1 9 9 9 9 f.1.2.2.1 f.1.1 f.1.2.1 f.1.2.2.2.1 f.1.2.2.2.2.1) fun g=>dO g (fun e=>cond (fO e.2.2.2.2.1 e.2.1.1.1) (cond (pW (dL e.2.1.1.1) e.2.2.2.2.1) (a6 ((e.2.2.2.2.2.1.1,(e.2.2.2.2.2.1.2.1,((iL e.2.2.2.2.1 (dL e.2.1.1.1) ((dU e.2.2.2.2.1 (0,(0,(0,(0,())))) (dL e.2.1.1.1)).1,((dU e.2.2.2.2.1 (0,(0,(0,(0,())))) (dL e.2.1.1.1)).2.1,(e.2.2.2.2.2.1.2.1,((dU e.2.2.2.2.1 (0,(0,(0,(0,())))) (dL e.2.1.1.1)).2.2.2.1,()))))),(e.2.1.1.2.1,((dV .i64 e.2.2.2.2.2.1.2.2.2.1 1),()))))),())) a7) a7) (fun h=>a7)) a7) a7) a7) a7) a7) a7) a7) a7
noncomputable def Ej (q:fG):Env:=gZ prog tt [] [(251,2,rQ),(238,600013,aye),(240,600001,SA),(118,600003,jJ),(251,600001,zt)] [(251,2,kL (GV q) (kL (BI q) (kL (BJ q) (kL (BK q) (kL (BL q) ((BM q)))))))] [] [(185,amk),(245,aqm q),(246,aqn q),(247,aqo q),(248,aqp q),(249,aqr q),(250,aqs q),(252,amn)]
def TB (q:fG) {d:Type} (a:EY.den->Option d) (b:Ht.den->Option d) (c:H5.den->Option d) (v:EY.den):Option d:=bv (xm q (br a) (br b) (bs c)) v
theorem ah2 (q:fG):dY (Ej q) 251 o9 (GV q):=lT (TB q) (h2:=by intros;simp only[TB,br,bs,bv,xm,dw,dA,bJ,dh,dB])
def KE (q:fG) {d:Type} (a:xN.den->Option d) (b:BQ.den->Option d) (c:Cb.den->Option d) (v:xN.den):Option d:=bv (qV q (br a) (br b) (bs c)) v
theorem Zi (q:fG):dY (Ej q) 251 o9 (BI q):=lT (KE q) (h2:=by intros;simp only[KE,br,bs,bv,qV,dw,dA,bJ,dh,dB])
def KF (q:fG) {d:Type} (a:xO.den->Option d) (b:BR.den->Option d) (c:Cc.den->Option d) (v:xO.den):Option d:=bv (qW q (br a) (br b) (bs c)) v
theorem Zj (q:fG):dY (Ej q) 251 o9 (BJ q):=lT (KF q) (h2:=by intros;simp only[KF,br,bs,bv,qW,dw,dA,bJ,dh,dB])
def KG (q:fG) {d:Type} (a:xP.den->Option d) (b:BU.den->Option d) (c:Ce.den->Option d) (v:xP.den):Option d:=bv (qX q (br a) (br b) (bs c)) v
theorem Zk (q:fG):dY (Ej q) 251 o9 (BK q):=lT (KG q) (h2:=by intros;simp only[KG,br,bs,bv,qX,dw,dA,bJ,dh,dB])
def KH (q:fG) {d:Type} (a:xQ.den->Option d) (b:BV.den->Option d) (c:Cf.den->Option d) (v:xQ.den):Option d:=bv (qY q (br a) (br b) (bs c)) v
theorem Zl (q:fG):dY (Ej q) 251 o9 (BL q):=lT (KH q) (h2:=by intros;simp only[KH,br,bs,bv,qY,dw,dA,bJ,dh,dB])
def KI (q:fG) {d:Type} (a:xR.den->Option d) (b:BX.den->Option d) (c:Ci.den->Option d) (v:xR.den):Option d:=bv (qZ q (br a) (br b) (bs c)) v
theorem Zm (q:fG):dY (Ej q) 251 o9 (BM q):=lT (KI q) (h2:=by intros;simp only[KI,br,bs,bv,qZ,dw,dA,bJ,dh,dB])
theorem aku (q:fG):dR (Ej q) 251 VN:=oq [o9] (aD (fun L h=>by rw[show((Ej q)).lp 251 (dM o9)=a6 (kL (GV q) (kL (BI q) (kL (BJ q) (kL (BK q) (kL (BL q) ((BM q))))))) by kernel_rfl]at h;cases h;exact uS (ah2 q) (uS (Zi q) (uS (Zj q) (uS (Zk q) (uS (Zl q) ((Zm q))))))) aN)
theorem ary (q:fG) (H:JQ q):fH (Ej q):=eB aN [251] (aD ⟨f251,VN,by kernel_rfl,by kernel_rfl,aku q⟩ aN) (hx:=(aD vG (aD H.2.2.2.2.2.2.2.1 (aD H.2.2.2.2.2.2.2.2.1 (aD H.2.2.2.2.2.2.2.2.2.1 (aD H.2.2.2.2.2.2.2.2.2.2.1 (aD H.2.2.2.2.2.2.2.2.2.2.2.1 (aD H.2.2.2.2.2.2.2.2.2.2.2.2.1 (aD abk aN)))))))))
def awW (q:fG) (g:List gQ) (h:Int) (i:List ig) (j l:Int):Option D5:=bK (qO g h i j l) fun f=>bK (NP f.1.1 f.1.2.1 f.1.2.2.1 f.1.2.2.2.1 f.1.2.2.2.2.1) fun d=>cond d.2.1 (cond (bZ 2 2) (cond (bZ d.1.2.1 d.1.2.1) (cond (bZ d.1.2.2.2.1 d.1.2.2.2.1) (cond (eH (cu d.1.2.2.1 [(2,(d.1.2.1,(0,(d.1.2.2.2.1,()))))]) 32) (cond (bZ 2 2) (cond (bZ d.1.2.1 d.1.2.1) (cond (bZ d.1.2.2.2.1 d.1.2.2.2.1) (cond ((bZ 2 2)&&((bZ d.1.2.1 d.1.2.1)&&((bZ 0 0)&&((bZ d.1.2.2.2.1 d.1.2.2.2.1)&&true)))) (bK (q.q160 d.1.1 d.1.2.1 (cu d.1.2.2.1 [(2,(d.1.2.1,(0,(d.1.2.2.2.1,()))))]) (bM d.1.2.2.1) d.1.2.2.2.2.1) fun e=>cond (fO e.1.2.2.1 (bM d.1.2.2.1)) (cond (pW (dL (bM d.1.2.2.1)) e.1.2.2.1) (a6 ((e.1.1,(e.1.2.1,((iL e.1.2.2.1 (dL (bM d.1.2.2.1)) ((dU e.1.2.2.1 (0,(0,(0,(0,())))) (dL (bM d.1.2.2.1))).1,((dU e.1.2.2.1 (0,(0,(0,(0,())))) (dL (bM d.1.2.2.1))).2.1,(e.1.2.1,((dU e.1.2.2.1 (0,(0,(0,(0,())))) (dL (bM d.1.2.2.1))).2.2.2.1,()))))),(d.1.2.2.2.1,(e.1.2.2.2.2.1,()))))),())) a7) a7) a7) a7) a7) a7) a7) a7) a7) a7)<|bK (Ai d.1.1 d.1.2.1 d.1.2.2.1 d.1.2.2.2.1 d.1.2.2.2.2.1) fun e=>a6 ((e.1.1,(e.1.2.1,(e.1.2.2.1,(e.1.2.2.2.1,(e.1.2.2.2.2.1,()))))),())
noncomputable def aIM (q:fG):Env:=gZ prog tt [] [(258,600002,EE),(118,600003,jJ)] [] [] [(159,Rk),(160,afO q),(188,FQ),(221,Rt)]
theorem arH (q:fG) (H:JQ q):fH (aIM q):=eB aN [] aN (hx:=(aD DY (aD H.1 (aD sV (aD vH aN)))))
def awR (q:fG) (f:List gQ) (g:Int) (h:List ig) (i j:Int):Option D5:=bK (q.q258 f g h i j) fun d=>bK (uD d.1.1 d.1.2.1 d.1.2.2.1 d.1.2.2.2.1 d.1.2.2.2.2.1 [125]) fun e=>a6 ((e.1.1,(e.1.2.1,(e.1.2.2.1,(e.1.2.2.2.1,(e.1.2.2.2.2.1,()))))),())
noncomputable def aIJ (q:fG):Env:=gZ prog tt [] [] [] [] [(254,Io),(258,JM q)]
theorem arB (q:fG) (H:JQ q):fH (aIJ q):=eB aN [] aN (hx:=(aD vI (aD H.2.2.2.2.2.2.1 aN)))
def awS (q:fG) (f:List gQ) (g:Int) (h:List ig) (i j:Int):Option D5:=bK (q.q258 f g h i j) fun d=>bK (uD d.1.1 d.1.2.1 d.1.2.2.1 d.1.2.2.2.1 d.1.2.2.2.2.1 [41]) fun e=>a6 ((e.1.1,(e.1.2.1,(e.1.2.2.1,(e.1.2.2.2.1,(e.1.2.2.2.2.1,()))))),())
noncomputable def aIK (q:fG):Env:=gZ prog tt [] [] [] [] [(254,Io),(258,JM q)]
theorem arC (q:fG) (H:JQ q):fH (aIK q):=eB aN [] aN (hx:=(aD vI (aD H.2.2.2.2.2.2.1 aN)))
noncomputable def aIr:Code:=(f247.body).getD .skip
noncomputable def auO:Code:=cA (cA (cA (cB (cB (cB (aIr))))))
def ax1:eY:=⟨[0,100003],[],[0],[],[],[]⟩
def adC:SQ:=⟨us cf 21,ej,eD⟩
def aed:SQ:=⟨us cf 21,ej,eD⟩
def aeM:SQ:=⟨us [] 22,ej,[]⟩
def Vh (q:fG) {h:Type} (i j:(List gQ)->Int->Int->Int->(List ig)->Option h) (u:Option h) (l:List gQ) (m o p:Int) (s:List ig):Option h:=bK (mi l m s o p [101]) fun d=>cond d.2.1 (bK (q.q258 d.1.1 d.1.2.1 d.1.2.2.1 d.1.2.2.2.1 d.1.2.2.2.2.1) fun e=>bK (uD e.1.1 e.1.2.1 e.1.2.2.1 e.1.2.2.2.1 e.1.2.2.2.2.1 [116]) fun f=>bK (q.q258 f.1.1 f.1.2.1 f.1.2.2.1 f.1.2.2.2.1 f.1.2.2.2.2.1) fun g=>i g.1.1 g.1.2.1 g.1.2.2.2.1 g.1.2.2.2.2.1 g.1.2.2.1)<|j d.1.1 d.1.2.1 d.1.2.2.2.1 d.1.2.2.2.2.1 d.1.2.2.1
def OA (q:fG):Nat->(List gQ)->Int->Int->Int->(List ig)->Option (aed.den⊕aeM.den)
 |0,_,_,_,_,_=>a7
 |n+1,d,e,f,g,h=>Vh q (OA q n) (fun i j l m o=>a6 (.inl ((),((),()),((i,j,l,m,()),o,())))) (a6 (.inr ((),((),()),()))) d e f g h
def aEg (q:fG) (n:Nat) (v:adC.den):=bq (OA q n) v
noncomputable def aol (q:fG):dG:=fQ ax1 adC aed aeM (.exit 0) (aEg q bV) 6
def awT (q:fG) (l:List gQ) (m:Int) (o:List ig) (p s:Int):Option D5:=bK (q.q258 l m o p s) fun f=>bK (uD f.1.1 f.1.2.1 f.1.2.2.1 f.1.2.2.2.1 f.1.2.2.2.2.1 [116]) fun g=>bK (q.q258 g.1.1 g.1.2.1 g.1.2.2.1 g.1.2.2.2.1 g.1.2.2.2.2.1) fun h=>bK (OA q bV h.1.1 h.1.2.1 h.1.2.2.2.1 h.1.2.2.2.2.1 h.1.2.2.1) fun u=>dO u (fun i=>bK (mi i.2.2.1.1 i.2.2.1.2.1 i.2.2.2.1 i.2.2.1.2.2.1 i.2.2.1.2.2.2.1 [108]) fun d=>cond d.2.1 (bK (q.q258 d.1.1 d.1.2.1 d.1.2.2.1 d.1.2.2.2.1 d.1.2.2.2.2.1) fun e=>bK (uD e.1.1 e.1.2.1 e.1.2.2.1 e.1.2.2.2.1 e.1.2.2.2.2.1 [102]) fun j=>a6 ((j.1.1,(j.1.2.1,(j.1.2.2.1,(j.1.2.2.2.1,(j.1.2.2.2.2.1,()))))),()))<|bK (uD d.1.1 d.1.2.1 d.1.2.2.1 d.1.2.2.2.1 d.1.2.2.2.2.1 [102]) fun e=>a6 ((e.1.1,(e.1.2.1,(e.1.2.2.1,(e.1.2.2.2.1,(e.1.2.2.2.2.1,()))))),())) (fun v=>a7)
noncomputable def ajH (q:fG):Env:=gZ prog tt [] [(247,3,ax1)] [(247,3,aol q)] [] [(158,zI),(254,Io),(258,JM q)]
def apU (q:fG) {d:Type} (a:adC.den->Option d) (b:aed.den->Option d) (c:aeM.den->Option d) (v:adC.den):Option d:=bq (Vh q (bp a) (bp b) (c ((),((),()),()))) v
theorem aE1 (q:fG):dY (ajH q) 247 auO (aol q):=lT (apU q) (h2:=by intros;simp only[apU,bp,bq,Vh,dw,dA,bJ,dh,dB])
theorem aJN (q:fG):dR (ajH q) 247 aIr:=oq [auO] (aD (fM (aE1 q)) aN)
theorem arD (q:fG) (H:JQ q):fH (ajH q):=eB aN [247] (aD ⟨f247,aIr,by kernel_rfl,by kernel_rfl,aJN q⟩ aN) (hx:=(aD lH (aD vI (aD H.2.2.2.2.2.2.1 aN))))
def aGq (q:fG) (f:List gQ) (g:Int) (h:List ig) (i j:Int):Option D5:=bK (q.q258 f g h i j) fun d=>bK (q.q259 d.1.1 d.1.2.1 d.1.2.2.1 d.1.2.2.2.1 d.1.2.2.2.2.1) fun e=>a6 ((e.1.1,(e.1.2.1,(e.1.2.2.1,(e.1.2.2.2.1,(e.1.2.2.2.2.1,()))))),())
noncomputable def aIL (q:fG):Env:=gZ prog tt [] [] [] [] [(258,JM q),(259,afV q)]
theorem arE (q:fG) (H:JQ q):fH (aIL q):=eB aN [] aN (hx:=(aD H.2.2.2.2.2.2.1 (aD H.2.2.2.2.2.2.2.2.2.2.2.2.2.2 aN)))
noncomputable def aIs:Code:=(f249.body).getD .skip
noncomputable def auP:Code:=cA (cA (cA (cA (cB (cB (cB (cB (cA (cB (aIs))))))))))
def ax2:eY:=⟨[0,100007],[],[0],[],[],[]⟩
def adD:SQ:=⟨us cf 47,ej,eD⟩
def aee:SQ:=⟨us cf 47,ej,eD⟩
def aeN:SQ:=⟨us [] 48,ej,[]⟩
def Vj (q:fG) {f:Type} (g h:(List gQ)->Int->Int->Int->(List ig)->Option f) (p:Option f) (i:List gQ) (j l m:Int) (o:List ig):Option f:=bK (RS i j o l m) fun d=>cond d.2.1 (bK (Gz d.1.1 d.1.2.1 d.1.2.2.1 d.1.2.2.2.1 d.1.2.2.2.2.1 7) fun e=>g e.1.1 e.1.2.1 e.1.2.2.2.1 e.1.2.2.2.2.1 e.1.2.2.1)<|h d.1.1 d.1.2.1 d.1.2.2.2.1 d.1.2.2.2.2.1 d.1.2.2.1
def Jc (q:fG):Nat->(List gQ)->Int->Int->Int->(List ig)->Option (aee.den⊕aeN.den)
 |0,_,_,_,_,_=>a7
 |n+1,d,e,f,g,h=>Vj q (Jc q n) (fun i j l m o=>a6 (.inl ((),((),()),((i,j,l,m,()),o,())))) (a6 (.inr ((),((),()),()))) d e f g h
def aEh (q:fG) (n:Nat) (v:adD.den):=bq (Jc q n) v
noncomputable def aom (q:fG):dG:=fQ ax2 adD aee aeN (.exit 0) (aEh q bV) 6
def NJ (q:fG) (d:(taF×oJ)):Option D5:=bK (q.q259 d.1.1 d.1.2.1 d.1.2.2.1 d.1.2.2.2.1 d.1.2.2.2.2.1) fun e=>a6 ((e.1.1,(e.1.2.1,(e.1.2.2.1,(e.1.2.2.2.1,(e.1.2.2.2.2.1,()))))),())
def Uc (i:D5) (q:fG):Option D5:=bK (mi i.1.1 i.1.2.1 i.1.2.2.1 i.1.2.2.2.1 i.1.2.2.2.2.1 [59]) fun d=>cond d.2.1 (bK (qO d.1.1 d.1.2.1 d.1.2.2.1 d.1.2.2.2.1 d.1.2.2.2.2.1) fun f=>NJ q f)<|bK (qO d.1.1 d.1.2.1 d.1.2.2.1 d.1.2.2.2.1 d.1.2.2.2.2.1) fun f=>bK (mi f.1.1 f.1.2.1 f.1.2.2.1 f.1.2.2.2.1 f.1.2.2.2.2.1 [107]) fun g=>cond g.2.1 (bK (Jc q bV g.1.1 g.1.2.1 g.1.2.2.2.1 g.1.2.2.2.2.1 g.1.2.2.1) fun o=>dO o (fun j=>bK (mi j.2.2.1.1 j.2.2.1.2.1 j.2.2.2.1 j.2.2.1.2.2.1 j.2.2.1.2.2.2.1 [59]) fun h=>bK (qO h.1.1 h.1.2.1 h.1.2.2.1 h.1.2.2.2.1 h.1.2.2.2.2.1) fun e=>cond (!e.2.1) (cond (!h.2.1) (bK (Ai e.1.1 e.1.2.1 e.1.2.2.1 e.1.2.2.2.1 e.1.2.2.2.2.1) fun l=>bK (q.q259 l.1.1 l.1.2.1 l.1.2.2.1 l.1.2.2.2.1 l.1.2.2.2.2.1) fun m=>a6 ((m.1.1,(m.1.2.1,(m.1.2.2.1,(m.1.2.2.2.1,(m.1.2.2.2.2.1,()))))),()))<|NJ q e)<|NJ q e) (fun p=>a7))<|NJ q g
def awU (q:fG) (g:List gQ) (h:Int) (i:List ig) (j l:Int):Option D5:=bK (RS g h i j l) fun d=>cond d.2.1 (cond (fO d.1.1 d.1.2.1) (bK (WH (dQ d.1.1 (0,([],(0,(0,())))) d.1.2.1).2.1) fun e=>cond e.1 (bK (Gz d.1.1 d.1.2.1 d.1.2.2.1 d.1.2.2.2.1 d.1.2.2.2.2.1 7) fun f=>Uc f q)<|bK (Ai d.1.1 d.1.2.1 d.1.2.2.1 d.1.2.2.2.1 d.1.2.2.2.2.1) fun f=>Uc f q) a7)<|bK (Ai d.1.1 d.1.2.1 d.1.2.2.1 d.1.2.2.2.1 d.1.2.2.2.2.1) fun e=>Uc e q
noncomputable def ajI (q:fG):Env:=gZ prog tt [(66,aHB)] [(249,7,ax2)] [(249,7,aom q)] [] [(158,zI),(161,afP),(188,FQ),(221,Rt),(255,afU),(259,afV q)]
def apV (q:fG) {d:Type} (a:adD.den->Option d) (b:aee.den->Option d) (c:aeN.den->Option d) (v:adD.den):Option d:=bq (Vj q (bp a) (bp b) (c ((),((),()),()))) v
theorem aE2 (q:fG):dY (ajI q) 249 auP (aom q):=lT (apV q) (h2:=by intros;simp only[apV,bp,bq,Vj,dw,dA,bJ,dh,dB])
theorem aJO (q:fG):dR (ajI q) 249 aIs:=oq [auP] (aD (fM (aE2 q)) aN)
theorem arF (q:fG) (H:JQ q):fH (ajI q):=eB (aD PN aN) [249] (aD ⟨f249,aIs,by kernel_rfl,by kernel_rfl,aJO q⟩ aN) (hx:=(aD lH (aD JI (aD sV (aD vH (aD JL (aD H.2.2.2.2.2.2.2.2.2.2.2.2.2.2 aN)))))))
noncomputable def aIt:Code:=(f250.body).getD .skip
noncomputable def auS:Code:=cA (cA (cA (cB (cB (cB (cB (cB (cA (aIt)))))))))
def ax5:eY:=⟨[0,100004],[],[0],[],[],[]⟩
def adG:SQ:=⟨us cf 31,ej,eD⟩
def aeh:SQ:=⟨us cf 31,ej,eD⟩
def aeQ:SQ:=⟨us [] 32,ej,[]⟩
def Vl (q:fG) {l:Type} (m j:(List gQ)->Int->Int->Int->(List ig)->Option l) (x:Option l) (o:List gQ) (p s u:Int) (v:List ig):Option l:=bK (aag o p v s u [40]) fun e=>cond e.2.1 (cond (bZ 15 15) (cond (bZ e.1.2.1 e.1.2.1) (cond (bZ e.1.2.2.2.1 e.1.2.2.2.1) (cond (eH (cu e.1.2.2.1 [(15,(e.1.2.1,(0,(e.1.2.2.2.1,()))))]) 32) (cond (bZ 15 15) (cond (bZ e.1.2.1 e.1.2.1) (cond (bZ e.1.2.2.2.1 e.1.2.2.2.1) (cond ((bZ 15 15)&&((bZ e.1.2.1 e.1.2.1)&&((bZ 0 0)&&((bZ e.1.2.2.2.1 e.1.2.2.2.1)&&true)))) (bK (q.q260 e.1.1 e.1.2.1 (cu e.1.2.2.1 [(15,(e.1.2.1,(0,(e.1.2.2.2.1,()))))]) (bM e.1.2.2.1) e.1.2.2.2.2.1) fun f=>cond (fO f.1.2.2.1 (bM e.1.2.2.1)) (cond (pW (dL (bM e.1.2.2.1)) f.1.2.2.1) (bK (mi f.1.1 f.1.2.1 (iL f.1.2.2.1 (dL (bM e.1.2.2.1)) ((dU f.1.2.2.1 (0,(0,(0,(0,())))) (dL (bM e.1.2.2.1))).1,((dU f.1.2.2.1 (0,(0,(0,(0,())))) (dL (bM e.1.2.2.1))).2.1,(f.1.2.1,((dU f.1.2.2.1 (0,(0,(0,(0,())))) (dL (bM e.1.2.2.1))).2.2.2.1,()))))) e.1.2.2.2.1 f.1.2.2.2.2.1 [121]) fun d=>cond (!d.2.1) (j d.1.1 d.1.2.1 d.1.2.2.2.1 d.1.2.2.2.2.1 d.1.2.2.1)<|bK (qO d.1.1 d.1.2.1 d.1.2.2.1 d.1.2.2.2.1 d.1.2.2.2.2.1) fun g=>m g.1.1 g.1.2.1 g.1.2.2.2.1 g.1.2.2.2.2.1 g.1.2.2.1) a7) a7) a7) a7) a7) a7) a7) a7) a7) a7)<|bK (RS e.1.1 e.1.2.1 e.1.2.2.1 e.1.2.2.2.1 e.1.2.2.2.2.1) fun f=>cond f.2.1 (bK (Ah f.1.1 f.1.2.1 f.1.2.2.1 f.1.2.2.2.1 f.1.2.2.2.2.1 0) fun d=>cond (!(bZ d.2.1 122)) (cond (bZ 15 15) (cond (bZ d.1.2.1 d.1.2.1) (cond (bZ d.1.2.2.2.1 d.1.2.2.2.1) (cond (eH (cu d.1.2.2.1 [(15,(d.1.2.1,(0,(d.1.2.2.2.1,()))))]) 32) (cond (bZ 15 15) (cond (bZ d.1.2.1 d.1.2.1) (cond (bZ d.1.2.2.2.1 d.1.2.2.2.1) (cond ((bZ 15 15)&&((bZ d.1.2.1 d.1.2.1)&&((bZ 0 0)&&((bZ d.1.2.2.2.1 d.1.2.2.2.1)&&true)))) (bK (q.q260 d.1.1 d.1.2.1 (cu d.1.2.2.1 [(15,(d.1.2.1,(0,(d.1.2.2.2.1,()))))]) (bM d.1.2.2.1) d.1.2.2.2.2.1) fun g=>cond (fO g.1.2.2.1 (bM d.1.2.2.1)) (cond (pW (dL (bM d.1.2.2.1)) g.1.2.2.1) (bK (mi g.1.1 g.1.2.1 (iL g.1.2.2.1 (dL (bM d.1.2.2.1)) ((dU g.1.2.2.1 (0,(0,(0,(0,())))) (dL (bM d.1.2.2.1))).1,((dU g.1.2.2.1 (0,(0,(0,(0,())))) (dL (bM d.1.2.2.1))).2.1,(g.1.2.1,((dU g.1.2.2.1 (0,(0,(0,(0,())))) (dL (bM d.1.2.2.1))).2.2.2.1,()))))) d.1.2.2.2.1 g.1.2.2.2.2.1 [121]) fun h=>cond (!h.2.1) (j h.1.1 h.1.2.1 h.1.2.2.2.1 h.1.2.2.2.2.1 h.1.2.2.1)<|bK (qO h.1.1 h.1.2.1 h.1.2.2.1 h.1.2.2.2.1 h.1.2.2.2.2.1) fun i=>m i.1.1 i.1.2.1 i.1.2.2.2.1 i.1.2.2.2.2.1 i.1.2.2.1) a7) a7) a7) a7) a7) a7) a7) a7) a7) a7)<|j d.1.1 d.1.2.1 d.1.2.2.2.1 d.1.2.2.2.2.1 d.1.2.2.1)<|j f.1.1 f.1.2.1 f.1.2.2.2.1 f.1.2.2.2.2.1 f.1.2.2.1
def Je (q:fG):Nat->(List gQ)->Int->Int->Int->(List ig)->Option (aeh.den⊕aeQ.den)
 |0,_,_,_,_,_=>a7
 |n+1,d,e,f,g,h=>Vl q (Je q n) (fun i j l m o=>a6 (.inl ((),((),()),((i,j,l,m,()),o,())))) (a6 (.inr ((),((),()),()))) d e f g h
def aEk (q:fG) (n:Nat) (v:adG.den):=bq (Je q n) v
noncomputable def aop (q:fG):dG:=fQ ax5 adG aeh aeQ (.exit 0) (aEk q bV) 6
def awV (q:fG) (j:List gQ) (l:Int) (m:List ig) (o p:Int):Option D5:=bK (RQ j l m o p) fun d=>bK (qO d.1.1 d.1.2.1 d.1.2.2.1 d.1.2.2.2.1 d.1.2.2.2.2.1) fun e=>bK (uD e.1.1 e.1.2.1 e.1.2.2.1 e.1.2.2.2.1 e.1.2.2.2.2.1 [107]) fun f=>bK (qO f.1.1 f.1.2.1 f.1.2.2.1 f.1.2.2.2.1 f.1.2.2.2.2.1) fun g=>bK (Je q bV g.1.1 g.1.2.1 g.1.2.2.2.1 g.1.2.2.2.2.1 g.1.2.2.1) fun s=>dO s (fun h=>bK (uD h.2.2.1.1 h.2.2.1.2.1 h.2.2.2.1 h.2.2.1.2.2.1 h.2.2.1.2.2.2.1 [122]) fun i=>a6 ((i.1.1,(i.1.2.1,(i.1.2.2.1,(i.1.2.2.2.1,(i.1.2.2.2.2.1,()))))),())) (fun u=>a7)
noncomputable def ajJ (q:fG):Env:=gZ prog tt [] [(250,4,ax5),(250,600005,EE),(118,600003,jJ)] [(250,4,aop q)] [] [(158,zI),(184,aA9),(185,amk),(188,FQ),(253,afT),(254,Io),(255,afU),(260,aqu q)]
def apY (q:fG) {d:Type} (a:adG.den->Option d) (b:aeh.den->Option d) (c:aeQ.den->Option d) (v:adG.den):Option d:=bq (Vl q (bp a) (bp b) (c ((),((),()),()))) v
theorem aE5 (q:fG):dY (ajJ q) 250 auS (aop q):=lT (apY q) (h2:=by intros;simp only[apY,bp,bq,Vl,dw,dA,bJ,dh,dB])
theorem aJP (q:fG):dR (ajJ q) 250 aIt:=oq [auS] (aD (fM (aE5 q)) aN)
theorem arG (q:fG) (H:JQ q):fH (ajJ q):=eB aN [250] (aD ⟨f250,aIt,by kernel_rfl,by kernel_rfl,aJP q⟩ aN) (hx:=(aD lH (aD Ro (aD vG (aD sV (aD JK (aD vI (aD JL (aD H.2.2.2.2.2.2.2.2.2.2.2.2.2.1 aN)))))))))
noncomputable def aIu:Code:=(Tryz.f260.body).getD .skip
noncomputable def auT:Code:=cA (cA (cA (cB (cB (aIu)))))
def ax6:eY:=⟨[0,100002],[],[0],[],[],[]⟩
def adH:SQ:=⟨us cf 19,ej,eD⟩
def aei:SQ:=⟨us cf 19,ej,eD⟩
def aeR:SQ:=⟨us [] 20,ej,[]⟩
def Vm (q:fG) {f:Type} (g h:(List gQ)->Int->Int->Int->(List ig)->Option f) (p:Option f) (i:List gQ) (j l m:Int) (o:List ig):Option f:=bK (mi i j o l m [124]) fun d=>cond d.2.1 (bK (RQ d.1.1 d.1.2.1 d.1.2.2.1 d.1.2.2.2.1 d.1.2.2.2.2.1) fun e=>g e.1.1 e.1.2.1 e.1.2.2.2.1 e.1.2.2.2.2.1 e.1.2.2.1)<|h d.1.1 d.1.2.1 d.1.2.2.2.1 d.1.2.2.2.2.1 d.1.2.2.1
def OB (q:fG):Nat->(List gQ)->Int->Int->Int->(List ig)->Option (aei.den⊕aeR.den)
 |0,_,_,_,_,_=>a7
 |n+1,d,e,f,g,h=>Vm q (OB q n) (fun i j l m o=>a6 (.inl ((),((),()),((i,j,l,m,()),o,())))) (a6 (.inr ((),((),()),()))) d e f g h
def aEl (q:fG) (n:Nat) (v:adH.den):=bq (OB q n) v
noncomputable def aoq (q:fG):dG:=fQ ax6 adH aei aeR (.exit 0) (aEl q bV) 6
def awY (q:fG) (l:List gQ) (m:Int) (o:List ig) (p s:Int):Option D5:=bK (mi l m o p s [40]) fun f=>bK (RQ f.1.1 f.1.2.1 f.1.2.2.1 f.1.2.2.2.1 f.1.2.2.2.2.1) fun g=>bK (OB q bV g.1.1 g.1.2.1 g.1.2.2.2.1 g.1.2.2.2.2.1 g.1.2.2.1) fun u=>dO u (fun h=>bK (uD h.2.2.1.1 h.2.2.1.2.1 h.2.2.2.1 h.2.2.1.2.2.1 h.2.2.1.2.2.2.1 [41]) fun i=>bK (qO i.1.1 i.1.2.1 i.1.2.2.1 i.1.2.2.2.1 i.1.2.2.2.2.1) fun j=>bK (NP j.1.1 j.1.2.1 j.1.2.2.1 j.1.2.2.2.1 j.1.2.2.2.2.1) fun d=>cond d.2.1 (cond (bZ 2 2) (cond (bZ d.1.2.1 d.1.2.1) (cond (bZ d.1.2.2.2.1 d.1.2.2.2.1) (cond (eH (cu d.1.2.2.1 [(2,(d.1.2.1,(0,(d.1.2.2.2.1,()))))]) 32) (cond (bZ 2 2) (cond (bZ d.1.2.1 d.1.2.1) (cond (bZ d.1.2.2.2.1 d.1.2.2.2.1) (cond ((bZ 2 2)&&((bZ d.1.2.1 d.1.2.1)&&((bZ 0 0)&&((bZ d.1.2.2.2.1 d.1.2.2.2.1)&&true)))) (bK (q.q160 d.1.1 d.1.2.1 (cu d.1.2.2.1 [(2,(d.1.2.1,(0,(d.1.2.2.2.1,()))))]) (bM d.1.2.2.1) d.1.2.2.2.2.1) fun e=>cond (fO e.1.2.2.1 (bM d.1.2.2.1)) (cond (pW (dL (bM d.1.2.2.1)) e.1.2.2.1) (a6 ((e.1.1,(e.1.2.1,((iL e.1.2.2.1 (dL (bM d.1.2.2.1)) ((dU e.1.2.2.1 (0,(0,(0,(0,())))) (dL (bM d.1.2.2.1))).1,((dU e.1.2.2.1 (0,(0,(0,(0,())))) (dL (bM d.1.2.2.1))).2.1,(e.1.2.1,((dU e.1.2.2.1 (0,(0,(0,(0,())))) (dL (bM d.1.2.2.1))).2.2.2.1,()))))),(d.1.2.2.2.1,(e.1.2.2.2.2.1,()))))),())) a7) a7) a7) a7) a7) a7) a7) a7) a7) a7)<|some ((d.1.1,(d.1.2.1,(d.1.2.2.1,(d.1.2.2.2.1,(d.1.2.2.2.2.1,()))))),())) (fun v=>a7)
noncomputable def ajK (q:fG):Env:=gZ prog tt [] [(260,2,ax6),(260,600007,EE),(118,600003,jJ)] [(260,2,aoq q)] [] [(158,zI),(159,Rk),(160,afO q),(188,FQ),(253,afT),(254,Io)]
def apZ (q:fG) {d:Type} (a:adH.den->Option d) (b:aei.den->Option d) (c:aeR.den->Option d) (v:adH.den):Option d:=bq (Vm q (bp a) (bp b) (c ((),((),()),()))) v
theorem aE6 (q:fG):dY (ajK q) 260 auT (aoq q):=lT (apZ q) (h2:=by intros;simp only[apZ,bp,bq,Vm,dw,dA,bJ,dh,dB])
theorem aJQ (q:fG):dR (ajK q) 260 aIu:=oq [auT] (aD (fM (aE6 q)) aN)
theorem arJ (q:fG) (H:JQ q):fH (ajK q):=eB aN [260] (aD ⟨Tryz.f260,aIu,by kernel_rfl,by kernel_rfl,aJQ q⟩ aN) (hx:=(aD lH (aD DY (aD H.1 (aD sV (aD JK (aD vI aN)))))))
def awX (q:fG) (g:List gQ) (h:Int) (i:List ig) (j l:Int):Option D5:=bK (uD g h i j l [100]) fun d=>bK (q.q258 d.1.1 d.1.2.1 d.1.2.2.1 d.1.2.2.2.1 d.1.2.2.2.2.1) fun e=>bK (uD e.1.1 e.1.2.1 e.1.2.2.1 e.1.2.2.2.1 e.1.2.2.2.2.1 [103]) fun f=>a6 ((f.1.1,(f.1.2.1,(f.1.2.2.1,(f.1.2.2.2.1,(f.1.2.2.2.2.1,()))))),())
noncomputable def aIN (q:fG):Env:=gZ prog tt [] [] [] [] [(254,Io),(258,JM q)]
theorem arI (q:fG) (H:JQ q):fH (aIN q):=eB aN [] aN (hx:=(aD vI (aD H.2.2.2.2.2.2.1 aN)))
def fJ:Nat->fG
 |0=>⟨(fun _ _ _ _ _=>a7),(fun _ _ _ _ _=>a7),(fun _ _ _ _ _=>a7),(fun _ _ _ _ _=>a7),(fun _ _ _ _ _=>a7),(fun _ _ _ _ _=>a7),(fun _ _ _ _ _=>a7),(fun _ _ _ _ _=>a7),(fun _ _ _ _ _=>a7),(fun _ _ _ _ _=>a7),(fun _ _ _ _ _=>a7),(fun _ _ _ _ _=>a7),(fun _ _ _ _ _=>a7),(fun _ _ _ _ _=>a7),(fun _ _ _ _ _=>a7)⟩
 |r+1=>⟨awH (fJ r),awJ (fJ r),agI (fJ r),awL (fJ r),awQ (fJ r),Di (fJ r),awW (fJ r),awR (fJ r),awS (fJ r),awT (fJ r),aGq (fJ r),awU (fJ r),awV (fJ r),awY (fJ r),awX (fJ r)⟩
def aw6 (d:List gQ) (e:Int) (f:List ig) (g h:Int):Option D5:=(fJ bV).q160 d e f g h
def aA1:gK:=⟨180,J6,[],[],fun x y=>aw6 x.1 x.2.1 x.2.2.1 x.2.2.2.1 x.2.2.2.2.1⟩
theorem aaa (q:fG) (d:JQ q):JQ ⟨awH q,awJ q,agI q,awL q,awQ q,Di q,awW q,awR q,awS q,awT q,aGq q,awU q,awV q,awY q,awX q⟩:=⟨sB (aq9 q d),sB (arl q d),sB (arp q d),sB (art q d),sB (arz q d),sB (ary q d),sB (arH q d),sB (arB q d),sB (arC q d),sB (arD q d),sB (arE q d),sB (arF q d),sB (arG q d),sB (arJ q d),sB (arI q d)⟩
theorem api: ∀r,JQ (fJ r)
 |0=>⟨oU fun _ _=>rfl,oU fun _ _=>rfl,oU fun _ _=>rfl,oU fun _ _=>rfl,oU fun _ _=>rfl,oU fun _ _=>rfl,oU fun _ _=>rfl,oU fun _ _=>rfl,oU fun _ _=>rfl,oU fun _ _=>rfl,oU fun _ _=>rfl,oU fun _ _=>rfl,oU fun _ _=>rfl,oU fun _ _=>rfl,oU fun _ _=>rfl⟩
 |r+1=>aaa _ (api r)
theorem atd:eP prog 160 aA1:=(api bV).1
noncomputable def aIf:Code:=(f119.body).getD .skip
noncomputable def auo:Code:=cA (cA (cB (aIf)))
def axI:eY:=⟨[0,2,100001],[],[],[],[],[]⟩
def ac9:SQ:=⟨us [cJ,.u,co] 26,ej,eD⟩
def adQ:SQ:=⟨us [] 29,ej,eD⟩
def aeq:SQ:=⟨us [] 29,ej,[]⟩
def UV {g:Type} (h:Bool->(List gQ)->Int->Int->Int->(List ig)->Option g) (q:(List gQ)->Int->Int->Int->(List ig)->Option g) (s:Option g) (l:Bool) (i:List gQ) (j m o:Int) (p:List ig):Option g:=cond (gU j (bM i)) (bK (mi i j p m o [110]) fun e=>cond e.2.1 (h l e.1.1 e.1.2.1 e.1.2.2.2.1 e.1.2.2.2.2.1 e.1.2.2.1)<|cond (!l) (bK (NP e.1.1 e.1.2.1 e.1.2.2.1 e.1.2.2.2.1 e.1.2.2.2.2.1) fun d=>cond d.2.1 (cond (bZ 2 2) (cond (bZ d.1.2.1 d.1.2.1) (cond (bZ d.1.2.2.2.1 d.1.2.2.2.1) (cond (eH (cu d.1.2.2.1 [(2,(d.1.2.1,(0,(d.1.2.2.2.1,()))))]) 32) (cond (bZ 2 2) (cond (bZ d.1.2.1 d.1.2.1) (cond (bZ d.1.2.2.2.1 d.1.2.2.2.1) (cond ((bZ 2 2)&&((bZ d.1.2.1 d.1.2.1)&&((bZ 0 0)&&((bZ d.1.2.2.2.1 d.1.2.2.2.1)&&true)))) (bK (aw6 d.1.1 d.1.2.1 (cu d.1.2.2.1 [(2,(d.1.2.1,(0,(d.1.2.2.2.1,()))))]) (bM d.1.2.2.1) d.1.2.2.2.2.1) fun f=>cond (fO f.1.2.2.1 (bM d.1.2.2.1)) (cond (pW (dL (bM d.1.2.2.1)) f.1.2.2.1) (h true f.1.1 f.1.2.1 d.1.2.2.2.1 f.1.2.2.2.2.1 (iL f.1.2.2.1 (dL (bM d.1.2.2.1)) ((dU f.1.2.2.1 (0,(0,(0,(0,())))) (dL (bM d.1.2.2.1))).1,((dU f.1.2.2.1 (0,(0,(0,(0,())))) (dL (bM d.1.2.2.1))).2.1,(f.1.2.1,((dU f.1.2.2.1 (0,(0,(0,(0,())))) (dL (bM d.1.2.2.1))).2.2.2.1,())))))) a7) a7) a7) a7) a7) a7) a7) a7) a7) a7)<|bK (Gz d.1.1 d.1.2.1 d.1.2.2.1 d.1.2.2.2.1 d.1.2.2.2.2.1 17) fun f=>h false f.1.1 f.1.2.1 f.1.2.2.2.1 f.1.2.2.2.2.1 f.1.2.2.1)<|bK (Gz e.1.1 e.1.2.1 e.1.2.2.1 e.1.2.2.2.1 e.1.2.2.2.2.1 17) fun d=>h false d.1.1 d.1.2.1 d.1.2.2.2.1 d.1.2.2.2.2.1 d.1.2.2.1)<|q i j m o p
def I5:Nat->Bool->(List gQ)->Int->Int->Int->(List ig)->Option (adQ.den⊕aeq.den)
 |0,_,_,_,_,_,_=>a7
 |n+1,d,e,f,g,h,i=>UV (I5 n) (fun j l m o p=>a6 (.inl ((),((),()),((j,l,m,o,()),p,())))) (a6 (.inr ((),((),()),()))) d e f g h i
def aDQ (n:Nat) (v:ac9.den):=bo (I5 n) v
noncomputable def anV:dG:=fQ axI ac9 adQ aeq (.exit 0) (aDQ bV) 6
def aw3 (e:List gQ) (f:Int) (g:List ig) (h i:Int):Option D5:=bK (I5 bV false e f h i g) fun j=>dO j (fun d=>a6 ((d.2.2.1.1,(d.2.2.1.2.1,(d.2.2.2.1,(d.2.2.1.2.2.1,(d.2.2.1.2.2.2.1,()))))),())) (fun l=>a7)
def aLv:gK:=⟨180,J6,[],[],fun x y=>aw3 x.1 x.2.1 x.2.2.1 x.2.2.2.1 x.2.2.2.2.1⟩
noncomputable def ajl:Env:=gZ prog tt [] [(119,1,axI),(119,600006,EE),(118,600003,jJ)] [(119,1,anV)] [] [(158,zI),(159,Rk),(160,aA1),(161,afP)]
def apt {d:Type} (a:ac9.den->Option d) (b:adQ.den->Option d) (c:aeq.den->Option d) (v:ac9.den):Option d:=bo (UV (bm a) (bp b) (c ((),((),()),()))) v
theorem aEB:dY ajl 119 auo anV:=lT (apt) (h2:=by intros;simp only[apt,bm,bp,bo,UV,dw,dA,bJ,dh,dB])
theorem aJl:dR ajl 119 aIf:=oq [auo] (aD (fM (aEB)) aN)
theorem aqY:fH ajl:=eB aN [119] (aD ⟨f119,aIf,by kernel_rfl,by kernel_rfl,aJl⟩ aN) (hx:=(aD lH (aD DY (aD atd (aD JI aN)))))
theorem asQ:eP prog 119 aLv:=sB aqY
def acn (e:List gQ):Option ((List ig)×Unit):=cond (bZ 1 1) (cond (bZ 0 0) (cond (bZ (-1) (-1)) (cond (eH [(1,(0,(0,((-1),()))))] 32) (cond (bZ 1 1) (cond (bZ 0 0) (cond (bZ (-1) (-1)) (cond ((bZ 1 1)&&((bZ 0 0)&&((bZ 0 0)&&((bZ (-1) (-1))&&true)))) (bK (aw3 e 0 [(1,(0,(0,((-1),()))))] 0 0) fun d=>cond (fO d.1.2.2.1 0) (cond (pW (dL 0) d.1.2.2.1) (a6 ((iL d.1.2.2.1 (dL 0) ((dU d.1.2.2.1 (0,(0,(0,(0,())))) (dL 0)).1,((dU d.1.2.2.1 (0,(0,(0,(0,())))) (dL 0)).2.1,(d.1.2.1,((dU d.1.2.2.1 (0,(0,(0,(0,())))) (dL 0)).2.2.2.1,()))))),())) a7) a7) a7) a7) a7) a7) a7) a7) a7) a7
def aHC:Sum:=⟨[pV],[(.list og,false)],fun x=>acn x.1⟩
theorem aBN:dX prog 73 aHC:=qC [(73,600002,⟨[3],[],[],[],[],[]⟩),(118,600003,jJ)] aN (sF asQ aN)
noncomputable def b29:Code:=(f29.body).getD .skip
noncomputable def aF1:Code:=cA (cA (cB (cA (cB (cB (cB (b29)))))))
def aGF:eY:=⟨[3,4,100005],[],[],[],[2],[]⟩
def aoO:SP:=⟨us [.u,.u,.u,ci,cg] 25,[]⟩
def akZ:SP:=⟨us [] 30,[]⟩
def alz:SP:=⟨us [.u,.u,co] 27,[]⟩
def afr {f:Type} (g:bU->Int->Option f) (h:Option f) (i:Bool->Option f) (e:bU) (d:Int):Option f:=cond (leI (bY .i64 d (bM e)) 65) (cond (dZ (bM [32,33,32,123,32,125,32,99,97,115,101,32,100,111,32,100,111,110,101,32,101,108,105,102,32,101,108,115,101,32,101,115,97,99,32,102,105,32,102,111,114,32,105,102,32,105,110,32,116,104,101,110,32,117,110,116,105,108,32,119,104,105,108,101,32]) d (bY .i64 d (bM e))) (cond (gm (sub [32,33,32,123,32,125,32,99,97,115,101,32,100,111,32,100,111,110,101,32,101,108,105,102,32,101,108,115,101,32,101,115,97,99,32,102,105,32,102,111,114,32,105,102,32,105,110,32,116,104,101,110,32,117,110,116,105,108,32,119,104,105,108,101,32] d (bY .i64 d (bM e))) e) (i true)<|g e (bY .i64 d 1)) a7) h
def Xh:Nat->bU->Int->Option (akZ.den⊕alz.den)
 |0,_,_=>a7
 |n+1,d,e=>afr (Xh n) (a6 (.inl ((),()))) (fun f=>a6 (.inr ((f,()),()))) d e
def aJ3 (n:Nat) (v:aoO.den):=Xh n v.1.1 v.1.2.1
noncomputable def ayI:dG:=fK aGF aoO akZ alz (.exit 0) (aJ3 bV) 6
def arT (d:bU):Option oJ:=cond (bZ (bM d) 0) (a6 (false,()))<|bK (Dl 32 d) fun e=>cond e.1 (a6 (false,()))<|cond (gG [32] d) (cond (gG (cu [32] d) [32]) (bK (Xh bV (cu (cu [32] d) [32]) 0) fun f=>dO f (fun h=>a6 (false,())) (fun g=>a6 (g.1.1,()))) a7) a7
def aBo:Sum:=⟨[.str],KO,fun x=>arT x.1⟩
noncomputable def avC:Env:=iW prog tt 29 [(23,aqi)] [(5,aGF)] [(5,ayI)]
def azU {d:Type} (a:aoO.den->Option d) (b:akZ.den->Option d) (c:alz.den->Option d) (v:aoO.den):Option d:=afr (aL a) (b ((),())) (aE c) v.1.1 v.1.2.1
theorem aKK:dY avC 29 aF1 ayI:=uz (azU) (h2:=by intros;simp only[azU,aL,aE,afr,dw,dA,bJ,dh,dB])
theorem aNo:dR avC 29 b29:=oq [aF1] (aD (fM (aKK)) aN)
theorem avD:fH avC:=eA f29 (aD zJ aN) (aNo)
theorem aiD:dX prog 29 aBo:=sA avD
noncomputable def b91:Code:=(f91.body).getD .skip
noncomputable def aGm:Code:=cA (cA (cB (cA (cA (cB (cA (cB (cB (cB (b91))))))))))
def aGY:eY:=⟨[1,3,100007],[],[],[],[2],[]⟩
def apa:SP:=⟨us [.u,dj,.u,cg] 59,[.box 1000001 97 [cg,ci,cg,cg]]⟩
def alm:SP:=⟨us [] 63,[]⟩
def alV:SP:=⟨us [.u,.u,ci] 60,[]⟩
def afK {e:Type} (g:Int->Int->bU->Int->Int->Option e) (h:Option e) (i:bU->Option e) (d j:Int) (f:bU) (l m:Int):Option e:=cond (leI d 17) (bK (NL d) fun o=>cond (gm o.1 f) (cond (dZ (bM [97,111,121,60,60,60,60,60,60,60,60,60,38,59,124,40,41]) (dV .i64 d 1) d) (i (sub [97,111,121,60,60,60,60,60,60,60,60,60,38,59,124,40,41] (dV .i64 d 1) d)) a7)<|g (bY .i64 d 1) j f l m) h
def Xm:Nat->Int->Int->bU->Int->Int->Option (alm.den⊕alV.den)
 |0,_,_,_,_,_=>a7
 |n+1,d,e,f,g,h=>afK (Xm n) (a6 (.inl ((),()))) (fun i=>a6 (.inr ((i,()),()))) d e f g h
def aKp (n:Nat) (v:apa.den):=Xm n v.1.1 v.2.1.1 v.2.1.2.1 v.2.1.2.2.1 v.2.1.2.2.2.1
noncomputable def ay3:dG:=fK aGY apa alm alV (.exit 0) (aKp bV) 6
def oI (d:gQ):Option YG:=cond (bZ d.1 2) (a6 ([110],()))<|cond (bZ d.1 5) (a6 ([35],()))<|cond (bZ d.1 4) (bK (Xm bV 1 d.1 d.2.1 d.2.2.1 d.2.2.2.1) fun e=>dO e (fun g=>a6 ([63],())) (fun f=>a6 (f.1.1,())))<|cond (!(bZ d.1 6)) (a6 ([63],()))<|bK (arT d.2.1) fun e=>cond (!e.1) (a6 ([120],()))<|cond (bZ (bM d.2.1) 1) (a6 (d.2.1,()))<|cond (gm d.2.1 [105,102]) (a6 ([105],()))<|cond (gm d.2.1 [105,110]) (a6 ([107],()))<|cond (gm d.2.1 [101,108,115,101]) (a6 ([108],()))<|cond (gm d.2.1 [101,115,97,99]) (a6 ([122],()))<|cond (gm d.2.1 [102,111,114]) (a6 ([114],()))<|cond (gm d.2.1 [100,111,110,101]) (a6 ([103],()))<|cond (gm d.2.1 [117,110,116,105,108]) (a6 ([119],()))<|cond (dZ (bM d.2.1) 0 1) (a6 ((sub d.2.1 0 1),())) a7
def aHJ:Sum:=⟨[tyD],tzG,fun x=>oI x.1⟩
noncomputable def awn:Env:=iW prog tt 91 [(29,aBo),(129,afN)] [(7,aGY)] [(7,ay3)]
def aAg {d:Type} (a:apa.den->Option d) (b:alm.den->Option d) (c:alV.den->Option d) (v:apa.den):Option d:=afK (fun e f g h i=>a ((e,()),((f,g,h,i,()),()))) (b ((),())) (aE c) v.1.1 v.2.1.1 v.2.1.2.1 v.2.1.2.2.1 v.2.1.2.2.2.1
theorem aK7:dY awn 91 aGm ay3:=uz (aAg) (h2:=by intros;simp only[aAg,aE,afK,dw,dA,bJ,dh,dB])
theorem aNO:dR awn 91 b91:=oq [aGm] (aD (fM (aK7)) aN)
theorem awo:fH awn:=eA f91 (aD aiD (aD Ri aN)) (aNO)
theorem aB2:dX prog 91 aHJ:=sA awo
def agP (d:Int):Option oJ:=cond (leI 9 d) (cond (leI d 14) (a6 (true,()))<|some ((bZ d 16),()))<|some ((bZ d 16),())
def aLz:Sum:=⟨[cZ],KO,fun x=>agP x.1⟩
theorem aa3:dX prog 135 aLz:=qA f135 [] aN
def Gi (h:List gQ) (i:bU) (g:List ig) (d e j f:Int):Option (taG×zN):=cond (bZ f f) (cond (bZ d d) (cond (bZ e e) (cond (eH (cu g [(f,(d,(0,(e,()))))]) 32) (cond (bZ f f) (cond (bZ d d) (cond (bZ e e) (cond ((bZ f f)&&((bZ d d)&&((bZ 0 0)&&((bZ e e)&&true)))) (bK (agP f) fun l=>cond l.1 (a6 ((h,(i,((cu g [(f,(d,(0,(e,()))))]),(d,((dV .i64 (bM (cu g [(f,(d,(0,(e,()))))])) 1),((bY .i64 j 1),())))))),(e,())))<|some ((h,(i,((cu g [(f,(d,(0,(e,()))))]),(d,((dV .i64 (bM (cu g [(f,(d,(0,(e,()))))])) 1),(j,())))))),(e,()))) a7) a7) a7) a7) a7) a7) a7) a7
def TD:gK:=⟨148,YR,[cZ],[cZ],fun x y=>Gi x.1 x.2.1 x.2.2.1 x.2.2.2.1 x.2.2.2.2.1 x.2.2.2.2.2.1 y.1⟩
theorem rq:eP prog 92 TD:=qB [] (sE aa3 aN)
def oW (f:List gQ) (d:bU) (g:List ig) (e h i:Int) (j:bU):Option (taG×oJ):=cond (gU e (bM d)) (cond (fO d e) (bK (Dl (cO d e) j) fun l=>a6 ((f,(d,(g,(e,(h,(i,())))))),(l.1,()))) a7)<|some ((f,(d,(g,(e,(h,(i,())))))),(false,()))
def KL:gK:=⟨148,YR,[.str],[.bool],fun x y=>oW x.1 x.2.1 x.2.2.1 x.2.2.2.1 x.2.2.2.2.1 x.2.2.2.2.2.1 y.1⟩
theorem lu:eP prog 93 KL:=qB [] (sE zJ aN)
def aaf (f:List gQ) (g:bU) (h:List ig) (i j l:Int):Option (taG×oJ):=bK (oW f g h i j l [60]) fun e=>cond e.2.1 (a6 ((e.1.1,(e.1.2.1,(e.1.2.2.1,(e.1.2.2.2.1,(e.1.2.2.2.2.1,(e.1.2.2.2.2.2.1,())))))),(true,())))<|bK (oW e.1.1 e.1.2.1 e.1.2.2.1 e.1.2.2.2.1 e.1.2.2.2.2.1 e.1.2.2.2.2.2.1 [35]) fun d=>cond d.2.1 (cond (gU (bY .i64 d.1.2.2.2.1 1) (bM d.1.2.1)) (cond (fO d.1.2.1 (bY .i64 d.1.2.2.2.1 1)) (a6 ((d.1.1,(d.1.2.1,(d.1.2.2.1,(d.1.2.2.2.1,(d.1.2.2.2.2.1,(d.1.2.2.2.2.2.1,())))))),((bZ (cO d.1.2.1 (bY .i64 d.1.2.2.2.1 1)) 60),()))) a7)<|some ((d.1.1,(d.1.2.1,(d.1.2.2.1,(d.1.2.2.2.1,(d.1.2.2.2.2.1,(d.1.2.2.2.2.2.1,())))))),(false,())))<|some ((d.1.1,(d.1.2.1,(d.1.2.2.1,(d.1.2.2.2.1,(d.1.2.2.2.2.1,(d.1.2.2.2.2.2.1,())))))),(false,()))
def amj:gK:=⟨148,YR,[],[.bool],fun x y=>aaf x.1 x.2.1 x.2.2.1 x.2.2.2.1 x.2.2.2.2.1 x.2.2.2.2.2.1⟩
theorem Rl:eP prog 168 amj:=qB [] aN (sF lu aN)
def WE (e:List gQ) (f:bU) (g:List ig) (h i j:Int):Option (taG×oJ):=bK (oW e f g h i j [123,40,105,119,114,99]) fun d=>cond d.2.1 (a6 ((d.1.1,(d.1.2.1,(d.1.2.2.1,(d.1.2.2.2.1,(d.1.2.2.2.2.1,(d.1.2.2.2.2.2.1,())))))),((gU d.1.2.2.2.2.2.1 200),())))<|some ((d.1.1,(d.1.2.1,(d.1.2.2.1,(d.1.2.2.2.1,(d.1.2.2.2.2.1,(d.1.2.2.2.2.2.1,())))))),(false,()))
def aA5:gK:=⟨148,YR,[],[.bool],fun x y=>WE x.1 x.2.1 x.2.2.1 x.2.2.2.1 x.2.2.2.2.1 x.2.2.2.2.2.1⟩
theorem aa8:eP prog 169 aA5:=qB [] aN (sF lu aN)
def agQ (g:List gQ) (h:bU) (i:List ig) (j l m:Int):Option (taG×oJ):=bK (oW g h i j l m [120]) fun d=>cond d.2.1 (a6 ((d.1.1,(d.1.2.1,(d.1.2.2.1,(d.1.2.2.2.1,(d.1.2.2.2.2.1,(d.1.2.2.2.2.2.1,())))))),(true,())))<|bK (aaf d.1.1 d.1.2.1 d.1.2.2.1 d.1.2.2.2.1 d.1.2.2.2.2.1 d.1.2.2.2.2.2.1) fun e=>cond e.2.1 (a6 ((e.1.1,(e.1.2.1,(e.1.2.2.1,(e.1.2.2.2.1,(e.1.2.2.2.2.1,(e.1.2.2.2.2.2.1,())))))),(true,())))<|bK (WE e.1.1 e.1.2.1 e.1.2.2.1 e.1.2.2.2.1 e.1.2.2.2.2.1 e.1.2.2.2.2.2.1) fun f=>a6 ((f.1.1,(f.1.2.1,(f.1.2.2.1,(f.1.2.2.2.1,(f.1.2.2.2.2.1,(f.1.2.2.2.2.2.1,())))))),(f.2.1,()))
def aAU:gK:=⟨148,YR,[],[.bool],fun x y=>agQ x.1 x.2.1 x.2.2.1 x.2.2.2.1 x.2.2.2.2.1 x.2.2.2.2.2.1⟩
theorem aa4:eP prog 136 aAU:=qB [] aN (sF lu (sF Rl (sF aa8 aN)))
def TP (f:List gQ) (g:bU) (h:List ig) (i j l:Int):Option (taG×oJ):=bK (oW f g h i j l [33]) fun d=>cond d.2.1 (a6 ((d.1.1,(d.1.2.1,(d.1.2.2.1,(d.1.2.2.2.1,(d.1.2.2.2.2.1,(d.1.2.2.2.2.2.1,())))))),(true,())))<|bK (agQ d.1.1 d.1.2.1 d.1.2.2.1 d.1.2.2.2.1 d.1.2.2.2.2.1 d.1.2.2.2.2.2.1) fun e=>a6 ((e.1.1,(e.1.2.1,(e.1.2.2.1,(e.1.2.2.2.1,(e.1.2.2.2.2.1,(e.1.2.2.2.2.2.1,())))))),(e.2.1,()))
def abl:gK:=⟨148,YR,[],[.bool],fun x y=>TP x.1 x.2.1 x.2.2.1 x.2.2.2.1 x.2.2.2.2.1 x.2.2.2.2.2.1⟩
theorem Ip:eP prog 94 abl:=qB [] aN (sF lu (sF aa4 aN))
end
section
open Option renaming some → a6, none → a7
open Tryz
open Go.RowKit
def Qk (d:List ig) (e f:Int):=iL d (dL e) ((dU d (0,(0,(0,(0,())))) (dL e)).1,((dU d (0,(0,(0,(0,())))) (dL e)).2.1,(f,((dU d (0,(0,(0,(0,())))) (dL e)).2.2.2.1,()))))
def qP (g:List gQ) (h:bU) (e:List ig) (f d i j:Int):Option MV:=cond (fO e d) (cond (pW (dL d) e) (cond (fO (Qk e d f) d) (cond (pW (dL d) (Qk e d f)) (bK (agP (dU (Qk e d f) (0,(0,(0,(0,())))) (dL d)).1) fun l=>cond l.1 (a6 ((g,(h,((Qk e d f),(f,(j,((dV .i64 i 1),())))))),()))<|some ((g,(h,((Qk e d f),(f,(j,(i,())))))),())) a7) a7) a7) a7
def TE:gK:=⟨148,YR,[cZ],[],fun x y=>qP x.1 x.2.1 x.2.2.1 x.2.2.2.1 x.2.2.2.2.1 x.2.2.2.2.2.1 y.1⟩
theorem ru:eP prog 97 TE:=qB [] (sE aa3 aN)
noncomputable def aIi:Code:=(Tryz.f138.body).getD .skip
noncomputable def auA:Code:=cA (cA (cA (cB (cB (aIi)))))
def adn:SQ:=⟨us fI 13,ej,b9⟩
def adZ:SQ:=⟨us [.u,.u,.u,cg] 13,ej,b9⟩
def aez:SQ:=⟨us eT 14,ej,[]⟩
def U4 {e:Type} (g h:Int->(List gQ)->bU->Int->Int->Int->(List ig)->Option e) (q:Int->Option e) (f:Int) (i:List gQ) (j:bU) (l m o:Int) (p:List ig):Option e:=bK (oW i j p l m o [110]) fun d=>cond d.2.1 (g (bY .i64 f 1) d.1.1 d.1.2.1 (bY .i64 d.1.2.2.2.1 1) d.1.2.2.2.2.1 d.1.2.2.2.2.2.1 d.1.2.2.1)<|h f d.1.1 d.1.2.1 d.1.2.2.2.1 d.1.2.2.2.2.1 d.1.2.2.2.2.2.1 d.1.2.2.1
def Oq:Nat->Int->(List gQ)->bU->Int->Int->Int->(List ig)->Option (adZ.den⊕aez.den)
 |0,_,_,_,_,_,_,_=>a7
 |n+1,d,e,f,g,h,i,j=>U4 (Oq n) (fun l m o p q s u=>a6 (.inl ((l,()),((),()),((m,o,p,q,s,()),u,())))) (fun v=>a6 (.inr ((v,()),((),()),()))) d e f g h i j
def aD2 (n:Nat) (v:adn.den):=bx (Oq n) v
noncomputable def an7:dG:=fQ acH adn adZ aez (.exit 0) (aD2 bV) 6
def mY (e:List gQ) (f:bU) (g:List ig) (h i j:Int):Option (taG×zN):=bK (Oq bV 0 e f h i j g) fun l=>dO l (fun d=>a6 ((d.2.2.1.1,(d.2.2.1.2.1,(d.2.2.2.1,(d.2.2.1.2.2.1,(d.2.2.1.2.2.2.1,(d.2.2.1.2.2.2.2.1,())))))),(d.1.1,()))) (fun m=>a7)
def Ik:gK:=⟨148,YR,[],[cZ],fun x y=>mY x.1 x.2.1 x.2.2.1 x.2.2.2.1 x.2.2.2.2.1 x.2.2.2.2.2.1⟩
noncomputable def ajt:Env:=gZ prog tt [] [(138,2,acH)] [(138,2,an7)] [] [(93,KL)]
def apG {d:Type} (a:adn.den->Option d) (b:adZ.den->Option d) (c:aez.den->Option d) (v:adn.den):Option d:=bx (U4 (bw a) (bw b) (fun e=>c ((e,()),((),()),()))) v
theorem aEN:dY ajt 138 auA an7:=lT (apG) (h2:=by intros;simp only[apG,bw,bx,U4,dw,dA,bJ,dh,dB])
theorem aJu:dR ajt 138 aIi:=oq [auA] (aD (fM (aEN)) aN)
theorem aq7:fH ajt:=eB aN [138] (aD ⟨Tryz.f138,aIi,by kernel_rfl,by kernel_rfl,aJu⟩ aN) (hx:=(aD lu aN))
theorem vC:eP prog 138 Ik:=sB aq7
def wS (f:List gQ) (g:bU) (h:List ig) (i j l:Int):Option MV:=bK (Gi f g h i j l 18) fun d=>bK (qP d.1.1 d.1.2.1 d.1.2.2.1 d.1.2.2.2.1 d.1.2.2.2.2.1 d.1.2.2.2.2.2.1 d.2.1) fun e=>a6 ((e.1.1,(e.1.2.1,(e.1.2.2.1,(e.1.2.2.2.1,(e.1.2.2.2.2.1,(e.1.2.2.2.2.2.1,())))))),())
def Yw:gK:=⟨148,YR,[],[],fun x y=>wS x.1 x.2.1 x.2.2.1 x.2.2.2.1 x.2.2.2.2.1 x.2.2.2.2.2.1⟩
theorem yP:eP prog 171 Yw:=qB [] aN (sF rq (sF ru aN))
noncomputable def b56:Code:=(f56.body).getD .skip
noncomputable def aF8:Code:=cA (cA (cB (cA (cB (b56)))))
def aGM:eY:=⟨[0,3,100002],[],[],[],[2],[]⟩
def aoV:SP:=⟨us [ci,.u,.u,cg] 17,[]⟩
def ak6:SP:=⟨us [] 21,[]⟩
def alG:SP:=⟨us eT 18,[]⟩
def afx {f:Type} (g:bU->Int->Option f) (h:Option f) (i:Int->Option f) (e:bU) (d:Int):Option f:=cond (gU d (bM e)) (cond (fO e d) (cond (bZ (cO e d) 61) (cond (dZ (bM e) 0 d) (bK (acj (sub e 0 d)) fun j=>cond j.1 (i d)<|g e (bY .i64 d 1)) a7)<|g e (bY .i64 d 1)) a7) h
def LH:Nat->bU->Int->Option (ak6.den⊕alG.den)
 |0,_,_=>a7
 |n+1,d,e=>afx (LH n) (a6 (.inl ((),()))) (fun f=>a6 (.inr ((f,()),()))) d e
def aKa (n:Nat) (v:aoV.den):=LH n v.1.1 v.1.2.1
noncomputable def ayP:dG:=fK aGM aoV ak6 alG (.exit 0) (aKa bV) 6
def aj2 (d:bU):Option zN:=bK (LH bV d 1) fun e=>dO e (fun g=>a6 (0,())) (fun f=>a6 (f.1.1,()))
def aBG:Sum:=⟨[.str],TL,fun x=>aj2 x.1⟩
noncomputable def avT:Env:=iW prog tt 56 [(22,abh)] [(2,aGM)] [(2,ayP)]
def az1 {d:Type} (a:aoV.den->Option d) (b:ak6.den->Option d) (c:alG.den->Option d) (v:aoV.den):Option d:=afx (aL a) (b ((),())) (aE c) v.1.1 v.1.2.1
theorem aKR:dY avT 56 aF8 ayP:=uz (az1) (h2:=by intros;simp only[az1,aL,aE,afx,dw,dA,bJ,dh,dB])
theorem aNy:dR avT 56 b56:=oq [aF8] (aD (fM (aKR)) aN)
theorem avU:fH avT:=eA f56 (aD Il aN) (aNy)
theorem aiL:dX prog 56 aBG:=sA avU
def Qj (f:List gQ) (g:bU) (h:List ig) (i j l m:Int):Option MV:=bK (Gi f g h i j l m) fun d=>bK (qP d.1.1 d.1.2.1 d.1.2.2.1 (bY .i64 d.1.2.2.2.1 1) d.1.2.2.2.2.1 d.1.2.2.2.2.2.1 d.2.1) fun e=>a6 ((e.1.1,(e.1.2.1,(e.1.2.2.1,(e.1.2.2.2.1,(e.1.2.2.2.2.1,(e.1.2.2.2.2.2.1,())))))),())
def aqz:gK:=⟨148,YR,[cZ],[],fun x y=>Qj x.1 x.2.1 x.2.2.1 x.2.2.2.1 x.2.2.2.2.1 x.2.2.2.2.2.1 y.1⟩
theorem PO:eP prog 96 aqz:=qB [] aN (sF rq (sF ru aN))
def oh (f:List gQ) (g:bU) (h:List ig) (i j l:Int) (m:bU):Option MV:=bK (oW f g h i j l m) fun d=>cond d.2.1 (a6 ((d.1.1,(d.1.2.1,(d.1.2.2.1,((bY .i64 d.1.2.2.2.1 1),(d.1.2.2.2.2.1,(d.1.2.2.2.2.2.1,())))))),()))<|bK (wS d.1.1 d.1.2.1 d.1.2.2.1 d.1.2.2.2.1 d.1.2.2.2.2.1 d.1.2.2.2.2.2.1) fun e=>a6 ((e.1.1,(e.1.2.1,(e.1.2.2.1,(e.1.2.2.2.1,(e.1.2.2.2.2.1,(e.1.2.2.2.2.2.1,())))))),())
def Yx:gK:=⟨148,YR,[.str],[],fun x y=>oh x.1 x.2.1 x.2.2.1 x.2.2.2.1 x.2.2.2.2.1 x.2.2.2.2.2.1 y.1⟩
theorem JJ:eP prog 211 Yx:=qB [] aN (sF lu (sF yP aN))
def zi (e:List gQ) (g:bU) (h:List ig) (f i j:Int):Option MV:=cond (gU f (bM e)) (cond (fO e f) (cond (bZ (dQ e (0,([],(0,(0,())))) f).1 6) (bK (Qj e g h f i j 7) fun d=>a6 ((d.1.1,(d.1.2.1,(d.1.2.2.1,(d.1.2.2.2.1,(d.1.2.2.2.2.1,(d.1.2.2.2.2.2.1,())))))),()))<|bK (wS e g h f i j) fun d=>a6 ((d.1.1,(d.1.2.1,(d.1.2.2.1,(d.1.2.2.2.1,(d.1.2.2.2.2.1,(d.1.2.2.2.2.2.1,())))))),())) a7)<|bK (wS e g h f i j) fun d=>a6 ((d.1.1,(d.1.2.1,(d.1.2.2.1,(d.1.2.2.2.1,(d.1.2.2.2.2.1,(d.1.2.2.2.2.2.1,())))))),())
def aBh:gK:=⟨148,YR,[],[],fun x y=>zi x.1 x.2.1 x.2.2.1 x.2.2.2.1 x.2.2.2.2.1 x.2.2.2.2.2.1⟩
theorem abj:eP prog 232 aBh:=qB [] aN (sF PO (sF yP aN))
def ag3 (h:List gQ) (i:bU) (j:List ig) (l m o:Int):Option MV:=bK (Gi h i j l m o 8) fun g=>bK (oW g.1.1 g.1.2.1 g.1.2.2.1 g.1.2.2.2.1 g.1.2.2.2.2.1 g.1.2.2.2.2.2.1 [35]) fun d=>cond d.2.1 (bK (zi d.1.1 d.1.2.1 d.1.2.2.1 (bY .i64 (bY .i64 d.1.2.2.2.1 1) 1) d.1.2.2.2.2.1 d.1.2.2.2.2.2.1) fun e=>bK (qP e.1.1 e.1.2.1 e.1.2.2.1 e.1.2.2.2.1 e.1.2.2.2.2.1 e.1.2.2.2.2.2.1 g.2.1) fun f=>a6 ((f.1.1,(f.1.2.1,(f.1.2.2.1,(f.1.2.2.2.1,(f.1.2.2.2.2.1,(f.1.2.2.2.2.2.1,())))))),()))<|bK (zi d.1.1 d.1.2.1 d.1.2.2.1 (bY .i64 d.1.2.2.2.1 1) d.1.2.2.2.2.1 d.1.2.2.2.2.2.1) fun e=>bK (qP e.1.1 e.1.2.1 e.1.2.2.1 e.1.2.2.2.1 e.1.2.2.2.2.1 e.1.2.2.2.2.2.1 g.2.1) fun f=>a6 ((f.1.1,(f.1.2.1,(f.1.2.2.1,(f.1.2.2.2.1,(f.1.2.2.2.2.1,(f.1.2.2.2.2.2.1,())))))),())
def amm:gK:=⟨148,YR,[],[],fun x y=>ag3 x.1 x.2.1 x.2.2.1 x.2.2.2.1 x.2.2.2.2.1 x.2.2.2.2.2.1⟩
theorem abg:eP prog 212 amm:=qB [] aN (sF rq (sF lu (sF ru (sF abj aN))))
structure jh where
 q95:(List gQ)->bU->(List ig)->Int->Int->Int->Option MV
 q137:(List gQ)->bU->(List ig)->Int->Int->Int->Option MV
 q170:(List gQ)->bU->(List ig)->Int->Int->Int->Option MV
 q195:(List gQ)->bU->(List ig)->Int->Int->Int->Option MV
 q228:(List gQ)->bU->(List ig)->Int->Int->Int->Option MV
 q229:(List gQ)->bU->(List ig)->Int->Int->Int->Option MV
 q210:(List gQ)->bU->(List ig)->Int->Int->Int->Option MV
 q230:(List gQ)->bU->(List ig)->Int->Int->Int->Option MV
 q231:(List gQ)->bU->(List ig)->Int->Int->Int->Option MV
def amo (q:jh):gK:=⟨148,YR,[],[],fun x y=>q.q95 x.1 x.2.1 x.2.2.1 x.2.2.2.1 x.2.2.2.2.1 x.2.2.2.2.2.1⟩
def aqb (q:jh):gK:=⟨148,YR,[],[],fun x y=>q.q137 x.1 x.2.1 x.2.2.1 x.2.2.2.1 x.2.2.2.2.1 x.2.2.2.2.2.1⟩
def aqc (q:jh):gK:=⟨148,YR,[],[],fun x y=>q.q170 x.1 x.2.1 x.2.2.1 x.2.2.2.1 x.2.2.2.2.1 x.2.2.2.2.2.1⟩
def aqe (q:jh):gK:=⟨148,YR,[],[],fun x y=>q.q195 x.1 x.2.1 x.2.2.1 x.2.2.2.1 x.2.2.2.2.1 x.2.2.2.2.2.1⟩
def afQ (q:jh):gK:=⟨148,YR,[],[],fun x y=>q.q228 x.1 x.2.1 x.2.2.1 x.2.2.2.1 x.2.2.2.2.1 x.2.2.2.2.2.1⟩
def afR (q:jh):gK:=⟨148,YR,[],[],fun x y=>q.q229 x.1 x.2.1 x.2.2.1 x.2.2.2.1 x.2.2.2.2.1 x.2.2.2.2.2.1⟩
def aqg (q:jh):gK:=⟨148,YR,[],[],fun x y=>q.q210 x.1 x.2.1 x.2.2.1 x.2.2.2.1 x.2.2.2.2.1 x.2.2.2.2.2.1⟩
def aqj (q:jh):gK:=⟨148,YR,[],[],fun x y=>q.q230 x.1 x.2.1 x.2.2.1 x.2.2.2.1 x.2.2.2.2.1 x.2.2.2.2.2.1⟩
def aqk (q:jh):gK:=⟨148,YR,[],[],fun x y=>q.q231 x.1 x.2.1 x.2.2.1 x.2.2.2.1 x.2.2.2.2.1 x.2.2.2.2.2.1⟩
noncomputable def b95:Code:=(f95.body).getD .skip
noncomputable def aGn:Code:=cA (cA (cA (cB (cB (b95)))))
def anF:eY:=⟨[0,2,100002],[],[0,2],[],[],[]⟩
def apb:SQ:=⟨us gd 27,ej,b9⟩
def aem:SQ:=⟨us gd 27,ej,b9⟩
def aeW:SQ:=⟨us [] 30,ej,[]⟩
def Q8 (q:jh) {i:Type} (l j:Int->(List gQ)->bU->Int->Int->Int->(List ig)->Option i) (x:Option i) (h:Int) (m:List gQ) (o:bU) (p s u:Int) (v:List ig):Option i:=bK (oW m o v p s u [59,38]) fun f=>cond f.2.1 (bK (mY f.1.1 f.1.2.1 f.1.2.2.1 (bY .i64 f.1.2.2.2.1 1) f.1.2.2.2.2.1 f.1.2.2.2.2.2.1) fun e=>bK (TP e.1.1 e.1.2.1 e.1.2.2.1 e.1.2.2.2.1 e.1.2.2.2.2.1 e.1.2.2.2.2.2.1) fun d=>cond (!d.2.1) (j h d.1.1 d.1.2.1 d.1.2.2.2.1 d.1.2.2.2.2.1 d.1.2.2.2.2.2.1 d.1.2.2.1)<|bK (q.q137 d.1.1 d.1.2.1 d.1.2.2.1 d.1.2.2.2.1 d.1.2.2.2.2.1 d.1.2.2.2.2.2.1) fun g=>l h g.1.1 g.1.2.1 g.1.2.2.2.1 g.1.2.2.2.2.1 g.1.2.2.2.2.2.1 g.1.2.2.1)<|bK (mY f.1.1 f.1.2.1 f.1.2.2.1 f.1.2.2.2.1 f.1.2.2.2.2.1 f.1.2.2.2.2.2.1) fun e=>cond (bZ e.2.1 0) (j h e.1.1 e.1.2.1 e.1.2.2.2.1 e.1.2.2.2.2.1 e.1.2.2.2.2.2.1 e.1.2.2.1)<|bK (TP e.1.1 e.1.2.1 e.1.2.2.1 e.1.2.2.2.1 e.1.2.2.2.2.1 e.1.2.2.2.2.2.1) fun d=>cond (!d.2.1) (j h d.1.1 d.1.2.1 d.1.2.2.2.1 d.1.2.2.2.2.1 d.1.2.2.2.2.2.1 d.1.2.2.1)<|bK (q.q137 d.1.1 d.1.2.1 d.1.2.2.1 d.1.2.2.2.1 d.1.2.2.2.2.1 d.1.2.2.2.2.2.1) fun g=>l h g.1.1 g.1.2.1 g.1.2.2.2.1 g.1.2.2.2.2.1 g.1.2.2.2.2.2.1 g.1.2.2.1
def BG (q:jh):Nat->Int->(List gQ)->bU->Int->Int->Int->(List ig)->Option (aem.den⊕aeW.den)
 |0,_,_,_,_,_,_,_=>a7
 |n+1,d,e,f,g,h,i,j=>Q8 q (BG q n) (fun l m o p s u v=>a6 (.inl ((l,()),((),()),((m,o,p,s,u,()),v,())))) (a6 (.inr ((),((),()),()))) d e f g h i j
def aKq (q:jh) (n:Nat) (v:apb.den):=bx (BG q n) v
noncomputable def ay4 (q:jh):dG:=fQ anF apb aem aeW (.exit 0) (aKq q bV) 6
def aIU (q:jh) (h:List gQ) (i:bU) (j:List ig) (l m o:Int):Option MV:=bK (Gi h i j l m o 2) fun d=>bK (q.q137 d.1.1 d.1.2.1 d.1.2.2.1 d.1.2.2.2.1 d.1.2.2.2.2.1 d.1.2.2.2.2.2.1) fun f=>bK (BG q bV d.2.1 f.1.1 f.1.2.1 f.1.2.2.2.1 f.1.2.2.2.2.1 f.1.2.2.2.2.2.1 f.1.2.2.1) fun p=>dO p (fun e=>bK (qP e.2.2.1.1 e.2.2.1.2.1 e.2.2.2.1 e.2.2.1.2.2.1 e.2.2.1.2.2.2.1 e.2.2.1.2.2.2.2.1 e.1.1) fun g=>a6 ((g.1.1,(g.1.2.1,(g.1.2.2.1,(g.1.2.2.2.1,(g.1.2.2.2.2.1,(g.1.2.2.2.2.2.1,())))))),())) (fun s=>a7)
noncomputable def awp (q:jh):Env:=gZ prog tt [] [(95,2,anF)] [(95,2,ay4 q)] [] [(92,TD),(93,KL),(94,abl),(97,TE),(137,aqb q),(138,Ik)]
def aAh (q:jh) {d:Type} (a:apb.den->Option d) (b:aem.den->Option d) (c:aeW.den->Option d) (v:apb.den):Option d:=bx (Q8 q (bw a) (bw b) (c ((),((),()),()))) v
theorem aK8 (q:jh):dY (awp q) 95 aGn (ay4 q):=lT (aAh q) (h2:=by intros;simp only[aAh,bw,bx,Q8,dw,dA,bJ,dh,dB])
theorem aNP (q:jh):dR (awp q) 95 b95:=oq [aGn] (aD (fM (aK8 q)) aN)
abbrev H95 (q:jh):Prop:=eP prog 95 (amo q)/\eP prog 137 (aqb q)/\eP prog 170 (aqc q)/\eP prog 195 (aqe q)/\eP prog 228 (afQ q)/\eP prog 229 (afR q)/\eP prog 210 (aqg q)/\eP prog 230 (aqj q)/\eP prog 231 (aqk q)
theorem awq (q:jh) (H:H95 q):fH (awp q):=eB aN [95] (aD ⟨f95,b95,by kernel_rfl,by kernel_rfl,aNP q⟩ aN) (hx:=(aD rq (aD lu (aD Ip (aD ru (aD H.2.1 (aD vC aN)))))))
noncomputable def aIh:Code:=(f137.body).getD .skip
noncomputable def auz:Code:=cA (cA (cA (cB (cB (aIh)))))
def adm:SQ:=⟨us gd 25,ej,b9⟩
def adY:SQ:=⟨us gd 25,ej,b9⟩
def aey:SQ:=⟨us [] 28,ej,[]⟩
def U3 (q:jh) {h:Type} (j l:Int->(List gQ)->bU->Int->Int->Int->(List ig)->Option h) (x:Option h) (i:Int) (m:List gQ) (o:bU) (p s u:Int) (v:List ig):Option h:=bK (oW m o v p s u [97,111]) fun d=>cond d.2.1 (bK (mY d.1.1 d.1.2.1 d.1.2.2.1 (bY .i64 d.1.2.2.2.1 1) d.1.2.2.2.2.1 d.1.2.2.2.2.2.1) fun g=>bK (TP g.1.1 g.1.2.1 g.1.2.2.1 g.1.2.2.2.1 g.1.2.2.2.2.1 g.1.2.2.2.2.2.1) fun e=>cond e.2.1 (bK (q.q170 e.1.1 e.1.2.1 e.1.2.2.1 e.1.2.2.2.1 e.1.2.2.2.2.1 e.1.2.2.2.2.2.1) fun f=>j i f.1.1 f.1.2.1 f.1.2.2.2.1 f.1.2.2.2.2.1 f.1.2.2.2.2.2.1 f.1.2.2.1)<|bK (wS e.1.1 e.1.2.1 e.1.2.2.1 e.1.2.2.2.1 e.1.2.2.2.2.1 e.1.2.2.2.2.2.1) fun f=>j i f.1.1 f.1.2.1 f.1.2.2.2.1 f.1.2.2.2.2.1 f.1.2.2.2.2.2.1 f.1.2.2.1)<|l i d.1.1 d.1.2.1 d.1.2.2.2.1 d.1.2.2.2.2.1 d.1.2.2.2.2.2.1 d.1.2.2.1
def Oo (q:jh):Nat->Int->(List gQ)->bU->Int->Int->Int->(List ig)->Option (adY.den⊕aey.den)
 |0,_,_,_,_,_,_,_=>a7
 |n+1,d,e,f,g,h,i,j=>U3 q (Oo q n) (fun l m o p s u v=>a6 (.inl ((l,()),((),()),((m,o,p,s,u,()),v,())))) (a6 (.inr ((),((),()),()))) d e f g h i j
def aD1 (q:jh) (n:Nat) (v:adm.den):=bx (Oo q n) v
noncomputable def an6 (q:jh):dG:=fQ anF adm adY aey (.exit 0) (aD1 q bV) 6
def awG (q:jh) (h:List gQ) (i:bU) (j:List ig) (l m o:Int):Option MV:=bK (Gi h i j l m o 3) fun d=>bK (q.q170 d.1.1 d.1.2.1 d.1.2.2.1 d.1.2.2.2.1 d.1.2.2.2.2.1 d.1.2.2.2.2.2.1) fun f=>bK (Oo q bV d.2.1 f.1.1 f.1.2.1 f.1.2.2.2.1 f.1.2.2.2.2.1 f.1.2.2.2.2.2.1 f.1.2.2.1) fun p=>dO p (fun e=>bK (qP e.2.2.1.1 e.2.2.1.2.1 e.2.2.2.1 e.2.2.1.2.2.1 e.2.2.1.2.2.2.1 e.2.2.1.2.2.2.2.1 e.1.1) fun g=>a6 ((g.1.1,(g.1.2.1,(g.1.2.2.1,(g.1.2.2.2.1,(g.1.2.2.2.2.1,(g.1.2.2.2.2.2.1,())))))),())) (fun s=>a7)
noncomputable def ajs (q:jh):Env:=gZ prog tt [] [(137,2,anF)] [(137,2,an6 q)] [] [(92,TD),(93,KL),(94,abl),(97,TE),(138,Ik),(170,aqc q),(171,Yw)]
def apF (q:jh) {d:Type} (a:adm.den->Option d) (b:adY.den->Option d) (c:aey.den->Option d) (v:adm.den):Option d:=bx (U3 q (bw a) (bw b) (c ((),((),()),()))) v
theorem aEM (q:jh):dY (ajs q) 137 auz (an6 q):=lT (apF q) (h2:=by intros;simp only[apF,bw,bx,U3,dw,dA,bJ,dh,dB])
theorem aJt (q:jh):dR (ajs q) 137 aIh:=oq [auz] (aD (fM (aEM q)) aN)
theorem aq6 (q:jh) (H:H95 q):fH (ajs q):=eB aN [137] (aD ⟨f137,aIh,by kernel_rfl,by kernel_rfl,aJt q⟩ aN) (hx:=(aD rq (aD lu (aD Ip (aD ru (aD vC (aD H.2.2.1 (aD yP aN))))))))
noncomputable def aIk:Code:=(f170.body).getD .skip
noncomputable def auC:Code:=cA (cA (cA (cB (cB (cB (aIk))))))
def axR:eY:=⟨[0,2,100004],[],[0,2],[],[],[]⟩
def adp:SQ:=⟨us gd 31,ej,b9⟩
def ad2:SQ:=⟨us gd 31,ej,b9⟩
def aeB:SQ:=⟨us [] 34,ej,[]⟩
def U6 (q:jh) {g:Type} (i j:Int->(List gQ)->bU->Int->Int->Int->(List ig)->Option g) (v:Option g) (h:Int) (l:List gQ) (m:bU) (o p s:Int) (u:List ig):Option g:=bK (oW l m u o p s [124]) fun d=>cond d.2.1 (bK (mY d.1.1 d.1.2.1 d.1.2.2.1 (bY .i64 d.1.2.2.2.1 1) d.1.2.2.2.2.1 d.1.2.2.2.2.2.1) fun e=>bK (q.q195 e.1.1 e.1.2.1 e.1.2.2.1 e.1.2.2.2.1 e.1.2.2.2.2.1 e.1.2.2.2.2.2.1) fun f=>i h f.1.1 f.1.2.1 f.1.2.2.2.1 f.1.2.2.2.2.1 f.1.2.2.2.2.2.1 f.1.2.2.1)<|j h d.1.1 d.1.2.1 d.1.2.2.2.1 d.1.2.2.2.2.1 d.1.2.2.2.2.2.1 d.1.2.2.1
def EH (q:jh):Nat->Int->(List gQ)->bU->Int->Int->Int->(List ig)->Option (ad2.den⊕aeB.den)
 |0,_,_,_,_,_,_,_=>a7
 |n+1,d,e,f,g,h,i,j=>U6 q (EH q n) (fun l m o p s u v=>a6 (.inl ((l,()),((),()),((m,o,p,s,u,()),v,())))) (a6 (.inr ((),((),()),()))) d e f g h i j
def aD4 (q:jh) (n:Nat) (v:adp.den):=bx (EH q n) v
noncomputable def an9 (q:jh):dG:=fQ axR adp ad2 aeB (.exit 0) (aD4 q bV) 6
def awI (q:jh) (j:List gQ) (l:bU) (m:List ig) (o p s:Int):Option MV:=bK (Gi j l m o p s 4) fun h=>bK (oW h.1.1 h.1.2.1 h.1.2.2.1 h.1.2.2.2.1 h.1.2.2.2.2.1 h.1.2.2.2.2.2.1 [33]) fun e=>cond e.2.1 (bK (q.q195 e.1.1 e.1.2.1 e.1.2.2.1 (bY .i64 e.1.2.2.2.1 1) e.1.2.2.2.2.1 e.1.2.2.2.2.2.1) fun f=>bK (EH q bV h.2.1 f.1.1 f.1.2.1 f.1.2.2.2.1 f.1.2.2.2.2.1 f.1.2.2.2.2.2.1 f.1.2.2.1) fun i=>dO i (fun d=>bK (qP d.2.2.1.1 d.2.2.1.2.1 d.2.2.2.1 d.2.2.1.2.2.1 d.2.2.1.2.2.2.1 d.2.2.1.2.2.2.2.1 d.1.1) fun g=>a6 ((g.1.1,(g.1.2.1,(g.1.2.2.1,(g.1.2.2.2.1,(g.1.2.2.2.2.1,(g.1.2.2.2.2.2.1,())))))),())) (fun u=>a7))<|bK (q.q195 e.1.1 e.1.2.1 e.1.2.2.1 e.1.2.2.2.1 e.1.2.2.2.2.1 e.1.2.2.2.2.2.1) fun f=>bK (EH q bV h.2.1 f.1.1 f.1.2.1 f.1.2.2.2.1 f.1.2.2.2.2.1 f.1.2.2.2.2.2.1 f.1.2.2.1) fun i=>dO i (fun d=>bK (qP d.2.2.1.1 d.2.2.1.2.1 d.2.2.2.1 d.2.2.1.2.2.1 d.2.2.1.2.2.2.1 d.2.2.1.2.2.2.2.1 d.1.1) fun g=>a6 ((g.1.1,(g.1.2.1,(g.1.2.2.1,(g.1.2.2.2.1,(g.1.2.2.2.2.1,(g.1.2.2.2.2.2.1,())))))),())) (fun u=>a7)
noncomputable def ajw (q:jh):Env:=gZ prog tt [] [(170,4,axR)] [(170,4,an9 q)] [] [(92,TD),(93,KL),(97,TE),(138,Ik),(195,aqe q)]
def apI (q:jh) {d:Type} (a:adp.den->Option d) (b:ad2.den->Option d) (c:aeB.den->Option d) (v:adp.den):Option d:=bx (U6 q (bw a) (bw b) (c ((),((),()),()))) v
theorem aEP (q:jh):dY (ajw q) 170 auC (an9 q):=lT (apI q) (h2:=by intros;simp only[apI,bw,bx,U6,dw,dA,bJ,dh,dB])
theorem aJy (q:jh):dR (ajw q) 170 aIk:=oq [auC] (aD (fM (aEP q)) aN)
theorem arc (q:jh) (H:H95 q):fH (ajw q):=eB aN [170] (aD ⟨f170,aIk,by kernel_rfl,by kernel_rfl,aJy q⟩ aN) (hx:=(aD rq (aD lu (aD ru (aD vC (aD H.2.2.2.1 aN))))))
noncomputable def ajf:Code:=(Tryz.f195.body).getD .skip
noncomputable def amD:Code:=cA (cA (cA (cB (cB (cB (cB (cB (ajf))))))))
noncomputable def Ae:Code:=cB (cB (cB (ajf)))
def anA:eY:=⟨[0,3,4,100016],[],[0,3],[],[],[]⟩
def Ar:eY:=⟨[0,900014],[],[],[],[],[]⟩
def Un:SQ:=⟨us [cJ,.u,.u,cg,cg] 139,ej,b9⟩
def XM:SQ:=⟨us fI 140,ej,b9⟩
def XR:SQ:=⟨us [] 144,ej,[]⟩
def Pq (q:jh) {i:Type} (j:Int->Int->(List gQ)->bU->Int->Int->Int->(List ig)->Option i) (l:Int->(List gQ)->bU->Int->Int->Int->(List ig)->Option i) (x:Option i) (g h:Int) (m:List gQ) (o:bU) (p s u:Int) (v:List ig):Option i:=bK (aaf m o v p s u) fun d=>cond d.2.1 (bK (ag3 d.1.1 d.1.2.1 d.1.2.2.1 d.1.2.2.2.1 d.1.2.2.2.2.1 d.1.2.2.2.2.2.1) fun e=>j g h e.1.1 e.1.2.1 e.1.2.2.2.1 e.1.2.2.2.2.1 e.1.2.2.2.2.2.1 e.1.2.2.1)<|cond (gU d.1.2.2.2.1 (bM d.1.1)) (cond (fO d.1.1 d.1.2.2.2.1) (cond (bZ (dQ d.1.1 (0,([],(0,(0,())))) d.1.2.2.2.1).1 6) (cond (bZ h 0) (cond (fO d.1.1 d.1.2.2.2.1) (bK (aj2 (dQ d.1.1 (0,([],(0,(0,())))) d.1.2.2.2.1).2.1) fun e=>cond (gU 0 e.1) (bK (Qj d.1.1 d.1.2.1 d.1.2.2.1 d.1.2.2.2.1 d.1.2.2.2.2.1 d.1.2.2.2.2.2.1 6) fun f=>j g h f.1.1 f.1.2.1 f.1.2.2.2.1 f.1.2.2.2.2.1 f.1.2.2.2.2.2.1 f.1.2.2.1)<|bK (Qj d.1.1 d.1.2.1 d.1.2.2.1 d.1.2.2.2.1 d.1.2.2.2.2.1 d.1.2.2.2.2.2.1 7) fun f=>j g (bY .i64 h 1) f.1.1 f.1.2.1 f.1.2.2.2.1 f.1.2.2.2.2.1 f.1.2.2.2.2.2.1 f.1.2.2.1) a7)<|bK (Qj d.1.1 d.1.2.1 d.1.2.2.1 d.1.2.2.2.1 d.1.2.2.2.2.1 d.1.2.2.2.2.2.1 7) fun e=>j g (bY .i64 h 1) e.1.1 e.1.2.1 e.1.2.2.2.1 e.1.2.2.2.2.1 e.1.2.2.2.2.2.1 e.1.2.2.1)<|l g d.1.1 d.1.2.1 d.1.2.2.2.1 d.1.2.2.2.2.1 d.1.2.2.2.2.2.1 d.1.2.2.1) a7)<|l g d.1.1 d.1.2.1 d.1.2.2.2.1 d.1.2.2.2.2.1 d.1.2.2.2.2.2.1 d.1.2.2.1
def Dw (q:jh):Nat->Int->Int->(List gQ)->bU->Int->Int->Int->(List ig)->Option (XM.den⊕XR.den)
 |0,_,_,_,_,_,_,_,_=>a7
 |n+1,d,e,f,g,h,i,j,l=>Pq q (Dw q n) (fun m o p s u v x=>a6 (.inl ((m,()),((),()),((o,p,s,u,v,()),x,())))) (a6 (.inr ((),((),()),()))) d e f g h i j l
def ays (q:jh) (n:Nat) (v:Un.den):=Dw q n v.1.1 v.1.2.1 v.2.2.1.1 v.2.2.1.2.1 v.2.2.1.2.2.1 v.2.2.1.2.2.2.1 v.2.2.1.2.2.2.2.1 v.2.2.2.1
noncomputable def ahL (q:jh):dG:=fQ anA Un XM XR (.exit 0) (ays q bV) 6
def Hg:SQ:=⟨us cf 143,ej,b9⟩
def xY:SQ:=⟨us [] 144,ej,b9⟩
def yg:SQ:=⟨us [] 144,ej,[]⟩
def yu (q:jh) {g:Type} (h:(List gQ)->bU->Int->Int->Int->(List ig)->Option g) (i:Option g) (j:List gQ) (l:bU) (m o p:Int) (s:List ig):Option g:=bK (Gi j l s m o p 5) fun d=>bK (Dw q bV d.2.1 0 d.1.1 d.1.2.1 d.1.2.2.2.1 d.1.2.2.2.2.1 d.1.2.2.2.2.2.1 d.1.2.2.1) fun u=>dO u (fun e=>bK (qP e.2.2.1.1 e.2.2.1.2.1 e.2.2.2.1 e.2.2.1.2.2.1 e.2.2.1.2.2.2.1 e.2.2.1.2.2.2.2.1 e.1.1) fun f=>h f.1.1 f.1.2.1 f.1.2.2.2.1 f.1.2.2.2.2.1 f.1.2.2.2.2.2.1 f.1.2.2.1) (fun v=>i)
def nU (q:jh) (d:List gQ) (e:bU) (f g h:Int) (i:List ig):Option (xY.den⊕yg.den):=yu q (fun j l m o p s=>a6 (.inl ((),((),()),((j,l,m,o,p,()),s,())))) (a6 (.inr ((),((),()),()))) d e f g h i
noncomputable def OM (q:jh):dG:=fQ Ar Hg xY yg (.exit 999999) (fun v=>nU q v.2.2.1.1 v.2.2.1.2.1 v.2.2.1.2.2.1 v.2.2.1.2.2.2.1 v.2.2.1.2.2.2.2.1 v.2.2.2.1) 12
def IP (q:jh) (d:(taG×oJ)):Option MV:=bK (nU q d.1.1 d.1.2.1 d.1.2.2.2.1 d.1.2.2.2.2.1 d.1.2.2.2.2.2.1 d.1.2.2.1) fun f=>dO f (fun e=>a6 ((e.2.2.1.1,(e.2.2.1.2.1,(e.2.2.2.1,(e.2.2.1.2.2.1,(e.2.2.1.2.2.2.1,(e.2.2.1.2.2.2.2.1,())))))),())) (fun g=>a7)
def awK (q:jh) (p:List gQ) (s:bU) (u:List ig) (v x y:Int):Option MV:=bK (agQ p s u v x y) fun f=>cond (!f.2.1) (bK (wS f.1.1 f.1.2.1 f.1.2.2.1 f.1.2.2.2.1 f.1.2.2.2.2.1 f.1.2.2.2.2.2.1) fun e=>a6 ((e.1.1,(e.1.2.1,(e.1.2.2.1,(e.1.2.2.2.1,(e.1.2.2.2.2.1,(e.1.2.2.2.2.2.1,())))))),()))<|bK (WE f.1.1 f.1.2.1 f.1.2.2.1 f.1.2.2.2.1 f.1.2.2.2.2.1 f.1.2.2.2.2.2.1) fun e=>cond e.2.1 (bK (q.q210 e.1.1 e.1.2.1 e.1.2.2.1 e.1.2.2.2.1 e.1.2.2.2.2.1 e.1.2.2.2.2.2.1) fun d=>a6 ((d.1.1,(d.1.2.1,(d.1.2.2.1,(d.1.2.2.2.1,(d.1.2.2.2.2.1,(d.1.2.2.2.2.2.1,())))))),()))<|bK (oW e.1.1 e.1.2.1 e.1.2.2.1 e.1.2.2.2.1 e.1.2.2.2.2.1 e.1.2.2.2.2.2.1 [120]) fun d=>cond d.2.1 (cond (gU (bY .i64 d.1.2.2.2.1 1) (bM d.1.2.1)) (cond (fO d.1.2.1 (bY .i64 d.1.2.2.2.1 1)) (cond (bZ (cO d.1.2.1 (bY .i64 d.1.2.2.2.1 1)) 40) (cond (gU d.1.2.2.2.2.2.1 200) (cond (fO d.1.1 d.1.2.2.2.1) (bK (acj (dQ d.1.1 (0,([],(0,(0,())))) d.1.2.2.2.1).2.1) fun z=>cond z.1 (bK (Gi d.1.1 d.1.2.1 d.1.2.2.1 d.1.2.2.2.1 d.1.2.2.2.2.1 d.1.2.2.2.2.2.1 16) fun j=>bK (Qj j.1.1 j.1.2.1 j.1.2.2.1 j.1.2.2.2.1 j.1.2.2.2.2.1 j.1.2.2.2.2.2.1 7) fun l=>bK (oh l.1.1 l.1.2.1 l.1.2.2.1 (bY .i64 l.1.2.2.2.1 1) l.1.2.2.2.2.1 l.1.2.2.2.2.2.1 [41]) fun m=>bK (mY m.1.1 m.1.2.1 m.1.2.2.1 m.1.2.2.2.1 m.1.2.2.2.2.1 m.1.2.2.2.2.2.1) fun o=>bK (WE o.1.1 o.1.2.1 o.1.2.2.1 o.1.2.2.2.1 o.1.2.2.2.2.1 o.1.2.2.2.2.2.1) fun g=>cond g.2.1 (bK (q.q210 g.1.1 g.1.2.1 g.1.2.2.1 g.1.2.2.2.1 g.1.2.2.2.2.1 g.1.2.2.2.2.2.1) fun h=>bK (qP h.1.1 h.1.2.1 h.1.2.2.1 h.1.2.2.2.1 h.1.2.2.2.2.1 h.1.2.2.2.2.2.1 j.2.1) fun i=>a6 ((i.1.1,(i.1.2.1,(i.1.2.2.1,(i.1.2.2.2.1,(i.1.2.2.2.2.1,(i.1.2.2.2.2.2.1,())))))),()))<|bK (wS g.1.1 g.1.2.1 g.1.2.2.1 g.1.2.2.2.1 g.1.2.2.2.2.1 g.1.2.2.2.2.2.1) fun h=>bK (qP h.1.1 h.1.2.1 h.1.2.2.1 h.1.2.2.2.1 h.1.2.2.2.2.1 h.1.2.2.2.2.2.1 j.2.1) fun i=>a6 ((i.1.1,(i.1.2.1,(i.1.2.2.1,(i.1.2.2.2.1,(i.1.2.2.2.2.1,(i.1.2.2.2.2.2.1,())))))),()))<|IP q d) a7)<|IP q d)<|IP q d) a7)<|IP q d)<|IP q d
noncomputable def Ld (q:jh):Env:=gZ prog tt [(22,abh),(56,aBG)] [(195,16,anA),(195,800014,Ar)] [(195,16,ahL q),(195,800014,OM q)] [] [(92,TD),(93,KL),(96,aqz),(97,TE),(136,aAU),(138,Ik),(168,amj),(169,aA5),(171,Yw),(210,aqg q),(211,Yx),(212,amm)]
def aip (q:jh) {d:Type} (a:Un.den->Option d) (b:XM.den->Option d) (c:XR.den->Option d) (v:Un.den):Option d:=Pq q (fun e f g h i j l m=>a ((e,f,()),((),()),((g,h,i,j,l,()),m,()))) (bw b) (c ((),((),()),())) v.1.1 v.1.2.1 v.2.2.1.1 v.2.2.1.2.1 v.2.2.1.2.2.1 v.2.2.1.2.2.2.1 v.2.2.1.2.2.2.2.1 v.2.2.2.1
theorem azg (q:jh):dY (Ld q) 195 amD (ahL q):=lT (aip q) (h2:=by intros;simp only[aip,bw,Pq,dw,dA,bJ,dh,dB])
theorem Yt (q:jh) {R:Type} (d:Nat) (K:Ex->St->Option R) (e:List gQ) (f:bU) (g h i:Int) (j:List ig):
  iter (a6 Ar) (tH (qR (Ld q) (d+12) 195 Ae)) 1 (jM Hg ((),((),()),((e,f,g,h,i,()),j,()))) K=
   yu q (fun l m e2 o p s=>K (.exit 999999) (jM xY ((),((),()),((l,m,e2,o,p,()),s,())))) (K .ret (jM yg ((),((),()),()))) e f g h i j:=by kernel_rfl
theorem acE (q:jh) {R:Type} (d:Nat) (K:Ex->St->Option R) (e:List gQ) (f:bU) (g h i:Int) (j:List ig):
  iter (a6 Ar) (tH (qR (Ld q) (d+12) 195 Ae)) 1 (jM Hg ((),((),()),((e,f,g,h,i,()),j,()))) K=bK (nU q e f g h i j) fun o=>dO o (fun a=>K (.exit 999999) (jM xY a)) fun b=>K .ret (jM yg b):=by
  rw[Yt];simp only[nU,yu,dw,dA,bJ,dh,dB]
  try simp only[dO]
theorem ac0 (q:jh):qF (Ld q) 195 Ae (OM q):=PZ (by kernel_rfl) fun R d K v o h=>⟨1,(acE q d K (v.2.2.1.1) (v.2.2.1.2.1) (v.2.2.1.2.2.1) (v.2.2.1.2.2.2.1) (v.2.2.1.2.2.2.2.1) (v.2.2.2.1)).trans (congrArg (fun o=>bK o _) h)⟩
theorem aJg:jk ajf=[amD]:=by kernel_rfl
theorem aIx (q:jh):uP (Ld q) 195 ajf=[Ae]:=by kernel_rfl
theorem aJH (q:jh):dR (Ld q) 195 ajf:=pz ajf (fun x _ d=>absurd (show false=true from d) (by decide)) (by rw[aJg];exact(aD (fM (azg q)) aN)) (qj (by rw[aIx];exact(aD (fC (by kernel_rfl) (ac0 q)) aN)))
theorem aro (q:jh) (H:H95 q):fH (Ld q):=eB (aD Il (aD aiL aN)) [195] (aD ⟨Tryz.f195,ajf,by kernel_rfl,by kernel_rfl,aJH q⟩ aN) (hx:=(aD rq (aD lu (aD PO (aD ru (aD aa4 (aD vC (aD Rl (aD aa8 (aD yP (aD H.2.2.2.2.2.2.1 (aD JJ (aD abg aN)))))))))))))
def awM (q:jh) (g:List gQ) (h:bU) (i:List ig) (j l m:Int):Option MV:=bK (mY g h i j l m) fun f=>bK (TP f.1.1 f.1.2.1 f.1.2.2.1 f.1.2.2.2.1 f.1.2.2.2.2.1 f.1.2.2.2.2.2.1) fun d=>cond d.2.1 (bK (q.q95 d.1.1 d.1.2.1 d.1.2.2.1 d.1.2.2.2.1 d.1.2.2.2.2.1 d.1.2.2.2.2.2.1) fun e=>a6 ((e.1.1,(e.1.2.1,(e.1.2.2.1,(e.1.2.2.2.1,(e.1.2.2.2.2.1,(e.1.2.2.2.2.2.1,())))))),()))<|bK (wS d.1.1 d.1.2.1 d.1.2.2.1 d.1.2.2.2.1 d.1.2.2.2.2.1 d.1.2.2.2.2.2.1) fun e=>a6 ((e.1.1,(e.1.2.1,(e.1.2.2.1,(e.1.2.2.2.1,(e.1.2.2.2.2.1,(e.1.2.2.2.2.2.1,())))))),())
noncomputable def aIG (q:jh):Env:=gZ prog tt [] [] [] [] [(94,abl),(95,amo q),(138,Ik),(171,Yw)]
theorem aru (q:jh) (H:H95 q):fH (aIG q):=eB aN [] aN (hx:=(aD Ip (aD H.1 (aD vC (aD yP aN)))))
def awN (q:jh) (g:List gQ) (h:bU) (i:List ig) (j l m:Int):Option MV:=bK (oh g h i j l m [100]) fun d=>bK (q.q228 d.1.1 d.1.2.1 d.1.2.2.1 d.1.2.2.2.1 d.1.2.2.2.2.1 d.1.2.2.2.2.2.1) fun e=>bK (oh e.1.1 e.1.2.1 e.1.2.2.1 e.1.2.2.2.1 e.1.2.2.2.2.1 e.1.2.2.2.2.2.1 [103]) fun f=>a6 ((f.1.1,(f.1.2.1,(f.1.2.2.1,(f.1.2.2.2.1,(f.1.2.2.2.2.1,(f.1.2.2.2.2.2.1,())))))),())
noncomputable def aIH (q:jh):Env:=gZ prog tt [] [] [] [] [(211,Yx),(228,afQ q)]
theorem arv (q:jh) (H:H95 q):fH (aIH q):=eB aN [] aN (hx:=(aD JJ (aD H.2.2.2.2.1 aN)))
noncomputable def aue:Code:=(f210.body).getD .skip
noncomputable def auJ:Code:=cA (cA (cB (cA (cB (cB (aue))))))
noncomputable def amE:Code:=cA (cA (cA (cB (cB (cB (cA (cB (cB (cB (cB (cB (cA (cB (cA (cB (cB (cB (cB (cB (aue))))))))))))))))))))
noncomputable def amF:Code:=cA (cA (cA (cB (cB (cB (cB (cB (cB (aue)))))))))
def axW:eY:=⟨[0,2,3,4,100003],[],[0,3],[],[],[]⟩
def anB:eY:=⟨[0,5,100020],[],[0,5],[],[],[]⟩
def anC:eY:=⟨[0,5,100036],[],[0,5],[],[],[]⟩
def adx:SQ:=⟨us [cJ,.u,dv,cg,cg] 103,ej,b9⟩
def ad8:SQ:=⟨us fI 104,ej,b9⟩
def aeH:SQ:=⟨us [] 108,ej,[]⟩
def afi (q:jh) {e:Type} (o:Int->Int->Int->(List gQ)->bU->Int->Int->Int->(List ig)->Option e) (s:Int->(List gQ)->bU->Int->Int->Int->(List ig)->Option e) (u:Option e) (f p d:Int) (g:List gQ) (h:bU) (i j l:Int) (m:List ig):Option e:=cond (gU d 6) (cond (fO [123,40,105,119,114,99] d) (cond (bZ (cO [123,40,105,119,114,99] d) f) (o f (bY .i64 9 d) (bY .i64 d 1) g h i j l m)<|o f p (bY .i64 d 1) g h i j l m) a7)<|s p g h i j l m
def xK (q:jh):Nat->Int->Int->Int->(List gQ)->bU->Int->Int->Int->(List ig)->Option (ad8.den⊕aeH.den)
 |0,_,_,_,_,_,_,_,_,_=>a7
 |n+1,d,e,f,g,h,i,j,l,m=>afi q (xK q n) (fun o p s u v x y=>a6 (.inl ((o,()),((),()),((p,s,u,v,x,()),y,())))) (a6 (.inr ((),((),()),()))) d e f g h i j l m
def aEb (q:jh) (n:Nat) (v:adx.den):=xK q n v.1.1 v.1.2.1 v.1.2.2.1 v.2.2.1.1 v.2.2.1.2.1 v.2.2.1.2.2.1 v.2.2.1.2.2.2.1 v.2.2.1.2.2.2.2.1 v.2.2.2.1
noncomputable def aog (q:jh):dG:=fQ axW adx ad8 aeH (.exit 0) (aEb q bV) 6
def Ur:SQ:=⟨ev,ej,b9⟩
def OY:SQ:=⟨ev,ej,b9⟩
def O1:SQ:=⟨us [] 108,ej,[]⟩
def Px (q:jh) {f:Type} (h i:Int->(List gQ)->bU->Int->Int->Int->(List ig)->Option f) (u:Option f) (g:Int) (j:List gQ) (l:bU) (m o p:Int) (s:List ig):Option f:=bK (aaf j l s m o p) fun d=>cond d.2.1 (bK (ag3 d.1.1 d.1.2.1 d.1.2.2.1 d.1.2.2.2.1 d.1.2.2.2.2.1 d.1.2.2.2.2.2.1) fun e=>h g e.1.1 e.1.2.1 e.1.2.2.2.1 e.1.2.2.2.2.1 e.1.2.2.2.2.2.1 e.1.2.2.1)<|i g d.1.1 d.1.2.1 d.1.2.2.2.1 d.1.2.2.2.2.1 d.1.2.2.2.2.2.1 d.1.2.2.1
def jE (q:jh):Nat->Int->(List gQ)->bU->Int->Int->Int->(List ig)->Option (OY.den⊕O1.den)
 |0,_,_,_,_,_,_,_=>a7
 |n+1,d,e,f,g,h,i,j=>Px q (jE q n) (fun l m o p s u v=>a6 (.inl ((l,()),((),()),((m,o,p,s,u,()),v,())))) (a6 (.inr ((),((),()),()))) d e f g h i j
def ayu (q:jh) (n:Nat) (v:Ur.den):=bx (jE q n) v
noncomputable def ahN (q:jh):dG:=fQ anC Ur OY O1 (.exit 5) (ayu q bV) 12
def Uo:SQ:=⟨ev,ej,b9⟩
def XN:SQ:=⟨ev,ej,b9⟩
def XT:SQ:=⟨us [] 108,ej,[]⟩
def Pv (q:jh) {h:Type} (j l:Int->(List gQ)->bU->Int->Int->Int->(List ig)->Option h) (x:Option h) (i:Int) (m:List gQ) (o:bU) (p s u:Int) (v:List ig):Option h:=bK (oW m o v p s u [101]) fun d=>cond d.2.1 (bK (q.q228 d.1.1 d.1.2.1 d.1.2.2.1 (bY .i64 d.1.2.2.2.1 1) d.1.2.2.2.2.1 d.1.2.2.2.2.2.1) fun e=>bK (oh e.1.1 e.1.2.1 e.1.2.2.1 e.1.2.2.2.1 e.1.2.2.2.2.1 e.1.2.2.2.2.2.1 [116]) fun f=>bK (q.q228 f.1.1 f.1.2.1 f.1.2.2.1 f.1.2.2.2.1 f.1.2.2.2.2.1 f.1.2.2.2.2.2.1) fun g=>j i g.1.1 g.1.2.1 g.1.2.2.2.1 g.1.2.2.2.2.1 g.1.2.2.2.2.2.1 g.1.2.2.1)<|l i d.1.1 d.1.2.1 d.1.2.2.2.1 d.1.2.2.2.2.1 d.1.2.2.2.2.2.1 d.1.2.2.1
def Dx (q:jh):Nat->Int->(List gQ)->bU->Int->Int->Int->(List ig)->Option (XN.den⊕XT.den)
 |0,_,_,_,_,_,_,_=>a7
 |n+1,d,e,f,g,h,i,j=>Pv q (Dx q n) (fun l m o p s u v=>a6 (.inl ((l,()),((),()),((m,o,p,s,u,()),v,())))) (a6 (.inr ((),((),()),()))) d e f g h i j
def ayt (q:jh) (n:Nat) (v:Uo.den):=bx (Dx q n) v
noncomputable def ahM (q:jh):dG:=fQ anB Uo XN XT (.exit 3) (ayt q bV) 18
def oN (f:OY.den⊕O1.den):Option MV:=dO f (fun d=>bK (qP d.2.2.1.1 d.2.2.1.2.1 d.2.2.2.1 d.2.2.1.2.2.1 d.2.2.1.2.2.2.1 d.2.2.1.2.2.2.2.1 d.1.1) fun e=>a6 ((e.1.1,(e.1.2.1,(e.1.2.2.1,(e.1.2.2.2.1,(e.1.2.2.2.2.1,(e.1.2.2.2.2.2.1,())))))),())) (fun g=>a7)
def Dh (q:jh) (s:List gQ) (o:bU) (u:List ig) (p v x:Int):Option MV:=cond (fO o p) (bK (xK q bV (cO o p) 9 0 s o p v x u) fun y=>dO y (fun g=>bK (Gi g.2.2.1.1 g.2.2.1.2.1 g.2.2.2.1 g.2.2.1.2.2.1 g.2.2.1.2.2.2.1 g.2.2.1.2.2.2.2.1 g.1.1) fun d=>cond (bZ g.1.1 9) (bK (q.q228 d.1.1 d.1.2.1 d.1.2.2.1 (bY .i64 d.1.2.2.2.1 1) d.1.2.2.2.2.1 d.1.2.2.2.2.2.1) fun e=>bK (oh e.1.1 e.1.2.1 e.1.2.2.1 e.1.2.2.2.1 e.1.2.2.2.2.1 e.1.2.2.2.2.2.1 [125]) fun f=>bK (jE q bV d.2.1 f.1.1 f.1.2.1 f.1.2.2.2.1 f.1.2.2.2.2.1 f.1.2.2.2.2.2.1 f.1.2.2.1) fun j=>oN j)<|cond (bZ g.1.1 10) (bK (q.q228 d.1.1 d.1.2.1 d.1.2.2.1 (bY .i64 d.1.2.2.2.1 1) d.1.2.2.2.2.1 d.1.2.2.2.2.2.1) fun e=>bK (oh e.1.1 e.1.2.1 e.1.2.2.1 e.1.2.2.2.1 e.1.2.2.2.2.1 e.1.2.2.2.2.2.1 [41]) fun f=>bK (jE q bV d.2.1 f.1.1 f.1.2.1 f.1.2.2.2.1 f.1.2.2.2.2.1 f.1.2.2.2.2.2.1 f.1.2.2.1) fun j=>oN j)<|cond (bZ g.1.1 11) (bK (q.q228 d.1.1 d.1.2.1 d.1.2.2.1 (bY .i64 d.1.2.2.2.1 1) d.1.2.2.2.2.1 d.1.2.2.2.2.2.1) fun e=>bK (oh e.1.1 e.1.2.1 e.1.2.2.1 e.1.2.2.2.1 e.1.2.2.2.2.1 e.1.2.2.2.2.2.1 [116]) fun f=>bK (q.q228 f.1.1 f.1.2.1 f.1.2.2.1 f.1.2.2.2.1 f.1.2.2.2.2.1 f.1.2.2.2.2.2.1) fun j=>bK (Dx q bV d.2.1 j.1.1 j.1.2.1 j.1.2.2.2.1 j.1.2.2.2.2.1 j.1.2.2.2.2.2.1 j.1.2.2.1) fun z=>dO z (fun l=>bK (oW l.2.2.1.1 l.2.2.1.2.1 l.2.2.2.1 l.2.2.1.2.2.1 l.2.2.1.2.2.2.1 l.2.2.1.2.2.2.2.1 [108]) fun h=>cond h.2.1 (bK (q.q228 h.1.1 h.1.2.1 h.1.2.2.1 (bY .i64 h.1.2.2.2.1 1) h.1.2.2.2.2.1 h.1.2.2.2.2.2.1) fun i=>bK (oh i.1.1 i.1.2.1 i.1.2.2.1 i.1.2.2.2.1 i.1.2.2.2.2.1 i.1.2.2.2.2.2.1 [102]) fun m=>bK (jE q bV l.1.1 m.1.1 m.1.2.1 m.1.2.2.2.1 m.1.2.2.2.2.1 m.1.2.2.2.2.2.1 m.1.2.2.1) fun A=>oN A)<|bK (oh h.1.1 h.1.2.1 h.1.2.2.1 h.1.2.2.2.1 h.1.2.2.2.2.1 h.1.2.2.2.2.2.1 [102]) fun i=>bK (jE q bV l.1.1 i.1.1 i.1.2.1 i.1.2.2.2.1 i.1.2.2.2.2.1 i.1.2.2.2.2.2.1 i.1.2.2.1) fun m=>oN m) (fun B=>a7))<|cond (bZ g.1.1 12) (bK (q.q228 d.1.1 d.1.2.1 d.1.2.2.1 (bY .i64 d.1.2.2.2.1 1) d.1.2.2.2.2.1 d.1.2.2.2.2.2.1) fun e=>bK (q.q229 e.1.1 e.1.2.1 e.1.2.2.1 e.1.2.2.2.1 e.1.2.2.2.2.1 e.1.2.2.2.2.2.1) fun f=>bK (jE q bV d.2.1 f.1.1 f.1.2.1 f.1.2.2.2.1 f.1.2.2.2.2.1 f.1.2.2.2.2.2.1 f.1.2.2.1) fun j=>oN j)<|cond (bZ g.1.1 13) (bK (q.q230 d.1.1 d.1.2.1 d.1.2.2.1 (bY .i64 d.1.2.2.2.1 1) d.1.2.2.2.2.1 d.1.2.2.2.2.2.1) fun e=>bK (jE q bV d.2.1 e.1.1 e.1.2.1 e.1.2.2.2.1 e.1.2.2.2.2.1 e.1.2.2.2.2.2.1 e.1.2.2.1) fun f=>oN f)<|cond (bZ g.1.1 14) (bK (q.q231 d.1.1 d.1.2.1 d.1.2.2.1 (bY .i64 d.1.2.2.2.1 1) d.1.2.2.2.2.1 d.1.2.2.2.2.2.1) fun e=>bK (jE q bV d.2.1 e.1.1 e.1.2.1 e.1.2.2.2.1 e.1.2.2.2.2.1 e.1.2.2.2.2.2.1 e.1.2.2.1) fun f=>oN f)<|bK (jE q bV d.2.1 d.1.1 d.1.2.1 (bY .i64 d.1.2.2.2.1 1) d.1.2.2.2.2.1 d.1.2.2.2.2.2.1 d.1.2.2.1) fun e=>oN e) (fun D=>a7)) a7
noncomputable def Wh (q:jh):Env:=gZ prog tt [] [(210,3,axW),(210,20,anB),(210,36,anC)] [(210,3,aog q),(210,36,ahN q),(210,20,ahM q)] [] [(92,TD),(93,KL),(97,TE),(168,amj),(211,Yx),(212,amm),(228,afQ q),(229,afR q),(230,aqj q),(231,aqk q)]
def apP (q:jh) {d:Type} (a:adx.den->Option d) (b:ad8.den->Option d) (c:aeH.den->Option d) (v:adx.den):Option d:=afi q (fun e f g h i j l m o=>a ((e,f,g,()),((),()),((h,i,j,l,m,()),o,()))) (bw b) (c ((),((),()),())) v.1.1 v.1.2.1 v.1.2.2.1 v.2.2.1.1 v.2.2.1.2.1 v.2.2.1.2.2.1 v.2.2.1.2.2.2.1 v.2.2.1.2.2.2.2.1 v.2.2.2.1
theorem aEW (q:jh):dY (Wh q) 210 auJ (aog q):=lT (apP q) (h2:=by intros;simp only[apP,bw,afi,dw,dA,bJ,dh,dB])
def air (q:jh) {d:Type} (a:Ur.den->Option d) (b:OY.den->Option d) (c:O1.den->Option d) (v:Ur.den):Option d:=bx (Px q (bw a) (bw b) (c ((),((),()),()))) v
theorem azi (q:jh):dY (Wh q) 210 amF (ahN q):=lT (air q) (h2:=by intros;simp only[air,bw,bx,Px,dw,dA,bJ,dh,dB])
def aiq (q:jh) {d:Type} (a:Uo.den->Option d) (b:XN.den->Option d) (c:XT.den->Option d) (v:Uo.den):Option d:=bx (Pv q (bw a) (bw b) (c ((),((),()),()))) v
theorem azh (q:jh):dY (Wh q) 210 amE (ahM q):=lT (aiq q) (h2:=by intros;simp only[aiq,bw,bx,Pv,dw,dA,bJ,dh,dB])
theorem aJI (q:jh):dR (Wh q) 210 aue:=oq [auJ,amE,amF] (aD (fM (aEW q)) (aD (fM (azh q)) (aD (fM (azi q)) aN)))
theorem arq (q:jh) (H:H95 q):fH (Wh q):=eB aN [210] (aD ⟨f210,aue,by kernel_rfl,by kernel_rfl,aJI q⟩ aN) (hx:=(aD rq (aD lu (aD ru (aD Rl (aD JJ (aD abg (aD H.2.2.2.2.1 (aD H.2.2.2.2.2.1 (aD H.2.2.2.2.2.2.2.1 (aD H.2.2.2.2.2.2.2.2 aN)))))))))))
noncomputable def aIp:Code:=(f230.body).getD .skip
noncomputable def auL:Code:=cA (cA (cA (cB (cA (cB (cB (cB (cB (cA (cB (aIp)))))))))))
def axY:eY:=⟨[0,100009],[],[0],[],[],[]⟩
def adz:SQ:=⟨us cf 112,ej,b9⟩
def aea:SQ:=⟨us cf 112,ej,b9⟩
def aeJ:SQ:=⟨us [] 113,ej,[]⟩
def Vf (q:jh) {g:Type} (o m:(List gQ)->bU->Int->Int->Int->(List ig)->Option g) (p:Option g) (d:List gQ) (h:bU) (e i j:Int) (l:List ig):Option g:=cond (gU e (bM d)) (cond (fO d e) (cond (bZ (dQ d (0,([],(0,(0,())))) e).1 6) (bK (Qj d h l e i j 7) fun f=>o f.1.1 f.1.2.1 f.1.2.2.2.1 f.1.2.2.2.2.1 f.1.2.2.2.2.2.1 f.1.2.2.1)<|m d h e i j l) a7)<|m d h e i j l
def Ja (q:jh):Nat->(List gQ)->bU->Int->Int->Int->(List ig)->Option (aea.den⊕aeJ.den)
 |0,_,_,_,_,_,_=>a7
 |n+1,d,e,f,g,h,i=>Vf q (Ja q n) (fun j l m o p s=>a6 (.inl ((),((),()),((j,l,m,o,p,()),s,())))) (a6 (.inr ((),((),()),()))) d e f g h i
def aEd (q:jh) (n:Nat) (v:adz.den):=Ja q n v.2.2.1.1 v.2.2.1.2.1 v.2.2.1.2.2.1 v.2.2.1.2.2.2.1 v.2.2.1.2.2.2.2.1 v.2.2.2.1
noncomputable def aoi (q:jh):dG:=fQ axY adz aea aeJ (.exit 0) (aEd q bV) 6
def NI (l:MV) (q:jh):Option MV:=bK (oW l.1.1 l.1.2.1 l.1.2.2.1 l.1.2.2.2.1 l.1.2.2.2.2.1 l.1.2.2.2.2.2.1 [59]) fun g=>cond g.2.1 (bK (mY g.1.1 g.1.2.1 g.1.2.2.1 (bY .i64 g.1.2.2.2.1 1) g.1.2.2.2.2.1 g.1.2.2.2.2.2.1) fun h=>bK (q.q229 h.1.1 h.1.2.1 h.1.2.2.1 h.1.2.2.2.1 h.1.2.2.2.2.1 h.1.2.2.2.2.2.1) fun d=>a6 ((d.1.1,(d.1.2.1,(d.1.2.2.1,(d.1.2.2.2.1,(d.1.2.2.2.2.1,(d.1.2.2.2.2.2.1,())))))),()))<|bK (mY g.1.1 g.1.2.1 g.1.2.2.1 g.1.2.2.2.1 g.1.2.2.2.2.1 g.1.2.2.2.2.2.1) fun h=>bK (oW h.1.1 h.1.2.1 h.1.2.2.1 h.1.2.2.2.1 h.1.2.2.2.2.1 h.1.2.2.2.2.2.1 [107]) fun d=>cond d.2.1 (bK (Ja q bV d.1.1 d.1.2.1 (bY .i64 d.1.2.2.2.1 1) d.1.2.2.2.2.1 d.1.2.2.2.2.2.1 d.1.2.2.1) fun j=>dO j (fun m=>bK (oW m.2.2.1.1 m.2.2.1.2.1 m.2.2.2.1 m.2.2.1.2.2.1 m.2.2.1.2.2.2.1 m.2.2.1.2.2.2.2.1 [59]) fun i=>cond i.2.1 (bK (mY i.1.1 i.1.2.1 i.1.2.2.1 (bY .i64 i.1.2.2.2.1 1) i.1.2.2.2.2.1 i.1.2.2.2.2.2.1) fun e=>bK (q.q229 e.1.1 e.1.2.1 e.1.2.2.1 e.1.2.2.2.1 e.1.2.2.2.2.1 e.1.2.2.2.2.2.1) fun f=>a6 ((f.1.1,(f.1.2.1,(f.1.2.2.1,(f.1.2.2.2.1,(f.1.2.2.2.2.1,(f.1.2.2.2.2.2.1,())))))),()))<|bK (mY i.1.1 i.1.2.1 i.1.2.2.1 i.1.2.2.2.1 i.1.2.2.2.2.1 i.1.2.2.2.2.2.1) fun e=>cond (bZ e.2.1 0) (bK (wS e.1.1 e.1.2.1 e.1.2.2.1 e.1.2.2.2.1 e.1.2.2.2.2.1 e.1.2.2.2.2.2.1) fun f=>bK (q.q229 f.1.1 f.1.2.1 f.1.2.2.1 f.1.2.2.2.1 f.1.2.2.2.2.1 f.1.2.2.2.2.2.1) fun o=>a6 ((o.1.1,(o.1.2.1,(o.1.2.2.1,(o.1.2.2.2.1,(o.1.2.2.2.2.1,(o.1.2.2.2.2.2.1,())))))),()))<|bK (q.q229 e.1.1 e.1.2.1 e.1.2.2.1 e.1.2.2.2.1 e.1.2.2.2.2.1 e.1.2.2.2.2.2.1) fun f=>a6 ((f.1.1,(f.1.2.1,(f.1.2.2.1,(f.1.2.2.2.1,(f.1.2.2.2.2.1,(f.1.2.2.2.2.2.1,())))))),())) (fun p=>a7))<|bK (q.q229 d.1.1 d.1.2.1 d.1.2.2.1 d.1.2.2.2.1 d.1.2.2.2.2.1 d.1.2.2.2.2.2.1) fun j=>a6 ((j.1.1,(j.1.2.1,(j.1.2.2.1,(j.1.2.2.2.1,(j.1.2.2.2.2.1,(j.1.2.2.2.2.2.1,())))))),())
def awO (q:jh) (d:List gQ) (g:bU) (h:List ig) (e i j:Int):Option MV:=cond (gU e (bM d)) (cond (fO d e) (cond (bZ (dQ d (0,([],(0,(0,())))) e).1 6) (cond (fO d e) (bK (acj (dQ d (0,([],(0,(0,())))) e).2.1) fun f=>cond f.1 (bK (Qj d g h e i j 7) fun l=>NI l q)<|bK (wS d g h e i j) fun l=>NI l q) a7)<|bK (wS d g h e i j) fun f=>NI f q) a7)<|bK (wS d g h e i j) fun f=>NI f q
noncomputable def ajF (q:jh):Env:=gZ prog tt [(22,abh)] [(230,9,axY)] [(230,9,aoi q)] [] [(93,KL),(96,aqz),(138,Ik),(171,Yw),(229,afR q)]
def apR (q:jh) {d:Type} (a:adz.den->Option d) (b:aea.den->Option d) (c:aeJ.den->Option d) (v:adz.den):Option d:=Vf q (fun e f g h i j=>a ((),((),()),((e,f,g,h,i,()),j,()))) (fun l m o p s u=>b ((),((),()),((l,m,o,p,s,()),u,()))) (c ((),((),()),())) v.2.2.1.1 v.2.2.1.2.1 v.2.2.1.2.2.1 v.2.2.1.2.2.2.1 v.2.2.1.2.2.2.2.1 v.2.2.2.1
theorem aEY (q:jh):dY (ajF q) 230 auL (aoi q):=lT (apR q) (h2:=by intros;simp only[apR,Vf,dw,dA,bJ,dh,dB])
theorem aJK (q:jh):dR (ajF q) 230 aIp:=oq [auL] (aD (fM (aEY q)) aN)
theorem arw (q:jh) (H:H95 q):fH (ajF q):=eB (aD Il aN) [230] (aD ⟨f230,aIp,by kernel_rfl,by kernel_rfl,aJK q⟩ aN) (hx:=(aD lu (aD PO (aD vC (aD yP (aD H.2.2.2.2.2.1 aN))))))
noncomputable def aCu:Code:=(f231.body).getD .skip
noncomputable def amG:Code:=cA (cA (cA (cB (cB (cB (cA (cB (cA (cA (cA (cB (cB (cB (cB (cB (aCu))))))))))))))))
noncomputable def auM:Code:=cA (cA (cA (cB (cB (cB (cB (cB (aCu))))))))
def anD:eY:=⟨[0,3,100010],[],[0,3],[],[],[]⟩
def axZ:eY:=⟨[0,2,100005],[],[0],[],[],[]⟩
def Us:SQ:=⟨us fI 96,ej,b9⟩
def XO:SQ:=⟨us fI 96,ej,b9⟩
def XU:SQ:=⟨us [] 100,ej,[]⟩
def Py (q:jh) {f:Type} (h i:Int->(List gQ)->bU->Int->Int->Int->(List ig)->Option f) (u:Option f) (g:Int) (j:List gQ) (l:bU) (m o p:Int) (s:List ig):Option f:=bK (oW j l s m o p [124]) fun d=>cond d.2.1 (bK (zi d.1.1 d.1.2.1 d.1.2.2.1 (bY .i64 d.1.2.2.2.1 1) d.1.2.2.2.2.1 d.1.2.2.2.2.2.1) fun e=>h g e.1.1 e.1.2.1 e.1.2.2.2.1 e.1.2.2.2.2.1 e.1.2.2.2.2.2.1 e.1.2.2.1)<|i g d.1.1 d.1.2.1 d.1.2.2.2.1 d.1.2.2.2.2.1 d.1.2.2.2.2.2.1 d.1.2.2.1
def wW (q:jh):Nat->Int->(List gQ)->bU->Int->Int->Int->(List ig)->Option (XO.den⊕XU.den)
 |0,_,_,_,_,_,_,_=>a7
 |n+1,d,e,f,g,h,i,j=>Py q (wW q n) (fun l m o p s u v=>a6 (.inl ((l,()),((),()),((m,o,p,s,u,()),v,())))) (a6 (.inr ((),((),()),()))) d e f g h i j
def ayv (q:jh) (n:Nat) (v:Us.den):=bx (wW q n) v
noncomputable def ahO (q:jh):dG:=fQ anD Us XO XU (.exit 2) (ayv q bV) 6
def adA:SQ:=⟨us [cJ,.u,co] 97,ej,b9⟩
def aeb:SQ:=⟨us cf 99,ej,b9⟩
def aeK:SQ:=⟨us [] 100,ej,[]⟩
def vz {p:Type} (q:jh) (s:(taG×zN)) (i:MV) (o:Bool->(List gQ)->bU->Int->Int->Int->(List ig)->Option p) (u:Option p):Option p:=bK (wW q bV s.2.1 i.1.1 i.1.2.1 i.1.2.2.2.1 i.1.2.2.2.2.1 i.1.2.2.2.2.2.1 i.1.2.2.1) fun v=>dO v (fun h=>bK (oh h.2.2.1.1 h.2.2.1.2.1 h.2.2.2.1 h.2.2.1.2.2.1 h.2.2.1.2.2.2.1 h.2.2.1.2.2.2.2.1 [41]) fun j=>bK (mY j.1.1 j.1.2.1 j.1.2.2.1 j.1.2.2.2.1 j.1.2.2.2.2.1 j.1.2.2.2.2.2.1) fun l=>bK (TP l.1.1 l.1.2.1 l.1.2.2.1 l.1.2.2.2.1 l.1.2.2.2.2.1 l.1.2.2.2.2.2.1) fun f=>cond f.2.1 (bK (q.q95 f.1.1 f.1.2.1 f.1.2.2.1 f.1.2.2.2.1 f.1.2.2.2.2.1 f.1.2.2.2.2.2.1) fun g=>bK (qP g.1.1 g.1.2.1 g.1.2.2.1 g.1.2.2.2.1 g.1.2.2.2.2.1 g.1.2.2.2.2.2.1 h.1.1) fun d=>bK (oW d.1.1 d.1.2.1 d.1.2.2.1 d.1.2.2.2.1 d.1.2.2.2.2.1 d.1.2.2.2.2.2.1 [121]) fun e=>cond e.2.1 (bK (mY e.1.1 e.1.2.1 e.1.2.2.1 (bY .i64 e.1.2.2.2.1 1) e.1.2.2.2.2.1 e.1.2.2.2.2.2.1) fun m=>o e.2.1 m.1.1 m.1.2.1 m.1.2.2.2.1 m.1.2.2.2.2.1 m.1.2.2.2.2.2.1 m.1.2.2.1)<|o e.2.1 e.1.1 e.1.2.1 e.1.2.2.2.1 e.1.2.2.2.2.1 e.1.2.2.2.2.2.1 e.1.2.2.1)<|bK (qP f.1.1 f.1.2.1 f.1.2.2.1 f.1.2.2.2.1 f.1.2.2.2.2.1 f.1.2.2.2.2.2.1 h.1.1) fun g=>bK (oW g.1.1 g.1.2.1 g.1.2.2.1 g.1.2.2.2.1 g.1.2.2.2.2.1 g.1.2.2.2.2.2.1 [121]) fun d=>cond d.2.1 (bK (mY d.1.1 d.1.2.1 d.1.2.2.1 (bY .i64 d.1.2.2.2.1 1) d.1.2.2.2.2.1 d.1.2.2.2.2.2.1) fun e=>o d.2.1 e.1.1 e.1.2.1 e.1.2.2.2.1 e.1.2.2.2.2.1 e.1.2.2.2.2.2.1 e.1.2.2.1)<|o d.2.1 d.1.1 d.1.2.1 d.1.2.2.2.1 d.1.2.2.2.2.1 d.1.2.2.2.2.2.1 d.1.2.2.1) (fun x=>u)
def Pz (q:jh) {h:Type} (i:Bool->(List gQ)->bU->Int->Int->Int->(List ig)->Option h) (j:(List gQ)->bU->Int->Int->Int->(List ig)->Option h) (l:Option h) (y:Bool) (o:List gQ) (p:bU) (s u v:Int) (x:List ig):Option h:=cond y (bK (oW o p x s u v [40]) fun d=>cond d.2.1 (bK (Gi d.1.1 d.1.2.1 d.1.2.2.1 d.1.2.2.2.1 d.1.2.2.2.2.1 d.1.2.2.2.2.2.1 15) fun e=>bK (oW e.1.1 e.1.2.1 e.1.2.2.1 e.1.2.2.2.1 e.1.2.2.2.2.1 e.1.2.2.2.2.2.1 [40]) fun f=>cond f.2.1 (bK (zi f.1.1 f.1.2.1 f.1.2.2.1 (bY .i64 f.1.2.2.2.1 1) f.1.2.2.2.2.1 f.1.2.2.2.2.2.1) fun g=>vz q e g i l)<|bK (zi f.1.1 f.1.2.1 f.1.2.2.1 f.1.2.2.2.1 f.1.2.2.2.2.1 f.1.2.2.2.2.2.1) fun g=>vz q e g i l)<|cond (gU d.1.2.2.2.1 (bM d.1.1)) (cond (fO d.1.1 d.1.2.2.2.1) (cond (bZ (dQ d.1.1 (0,([],(0,(0,())))) d.1.2.2.2.1).1 6) (bK (oW d.1.1 d.1.2.1 d.1.2.2.1 d.1.2.2.2.1 d.1.2.2.2.2.1 d.1.2.2.2.2.2.1 [122]) fun e=>cond (!e.2.1) (bK (Gi e.1.1 e.1.2.1 e.1.2.2.1 e.1.2.2.2.1 e.1.2.2.2.2.1 e.1.2.2.2.2.2.1 15) fun f=>bK (oW f.1.1 f.1.2.1 f.1.2.2.1 f.1.2.2.2.1 f.1.2.2.2.2.1 f.1.2.2.2.2.2.1 [40]) fun g=>cond g.2.1 (bK (zi g.1.1 g.1.2.1 g.1.2.2.1 (bY .i64 g.1.2.2.2.1 1) g.1.2.2.2.2.1 g.1.2.2.2.2.2.1) fun m=>vz q f m i l)<|bK (zi g.1.1 g.1.2.1 g.1.2.2.1 g.1.2.2.2.1 g.1.2.2.2.2.1 g.1.2.2.2.2.2.1) fun m=>vz q f m i l)<|j e.1.1 e.1.2.1 e.1.2.2.2.1 e.1.2.2.2.2.1 e.1.2.2.2.2.2.1 e.1.2.2.1)<|j d.1.1 d.1.2.1 d.1.2.2.2.1 d.1.2.2.2.2.1 d.1.2.2.2.2.2.1 d.1.2.2.1) a7)<|j d.1.1 d.1.2.1 d.1.2.2.2.1 d.1.2.2.2.2.1 d.1.2.2.2.2.2.1 d.1.2.2.1)<|j o p s u v x
def AA (q:jh):Nat->Bool->(List gQ)->bU->Int->Int->Int->(List ig)->Option (aeb.den⊕aeK.den)
 |0,_,_,_,_,_,_,_=>a7
 |n+1,d,e,f,g,h,i,j=>Pz q (AA q n) (fun l m o p s u=>a6 (.inl ((),((),()),((l,m,o,p,s,()),u,())))) (a6 (.inr ((),((),()),()))) d e f g h i j
def aEe (q:jh) (n:Nat) (v:adA.den):=bx (AA q n) v
noncomputable def aoj (q:jh):dG:=fQ axZ adA aeb aeK (.exit 0) (aEe q bV) 12
def awP (q:jh) (j:List gQ) (l:bU) (m:List ig) (o p s:Int):Option MV:=bK (zi j l m o p s) fun d=>bK (mY d.1.1 d.1.2.1 d.1.2.2.1 d.1.2.2.2.1 d.1.2.2.2.2.1 d.1.2.2.2.2.2.1) fun e=>bK (oh e.1.1 e.1.2.1 e.1.2.2.1 e.1.2.2.2.1 e.1.2.2.2.2.1 e.1.2.2.2.2.2.1 [107]) fun f=>bK (mY f.1.1 f.1.2.1 f.1.2.2.1 f.1.2.2.2.1 f.1.2.2.2.2.1 f.1.2.2.2.2.2.1) fun g=>bK (AA q bV true g.1.1 g.1.2.1 g.1.2.2.2.1 g.1.2.2.2.2.1 g.1.2.2.2.2.2.1 g.1.2.2.1) fun u=>dO u (fun h=>bK (oh h.2.2.1.1 h.2.2.1.2.1 h.2.2.2.1 h.2.2.1.2.2.1 h.2.2.1.2.2.2.1 h.2.2.1.2.2.2.2.1 [122]) fun i=>a6 ((i.1.1,(i.1.2.1,(i.1.2.2.1,(i.1.2.2.2.1,(i.1.2.2.2.2.1,(i.1.2.2.2.2.2.1,())))))),())) (fun v=>a7)
noncomputable def abZ (q:jh):Env:=gZ prog tt [] [(231,10,anD),(231,5,axZ)] [(231,10,ahO q),(231,5,aoj q)] [] [(92,TD),(93,KL),(94,abl),(95,amo q),(97,TE),(138,Ik),(211,Yx),(232,aBh)]
def ais (q:jh) {d:Type} (a:Us.den->Option d) (b:XO.den->Option d) (c:XU.den->Option d) (v:Us.den):Option d:=bx (Py q (bw a) (bw b) (c ((),((),()),()))) v
theorem azj (q:jh):dY (abZ q) 231 amG (ahO q):=lT (ais q) (h2:=by intros;simp only[ais,bw,bx,Py,dw,dA,bJ,dh,dB])
def apS (q:jh) {d:Type} (a:adA.den->Option d) (b:aeb.den->Option d) (c:aeK.den->Option d) (v:adA.den):Option d:=bx (Pz q (bw a) (fun e f g h i j=>b ((),((),()),((e,f,g,h,i,()),j,()))) (c ((),((),()),()))) v
theorem aEZ (q:jh):dY (abZ q) 231 auM (aoj q):=lT (apS q) (h2:=by intros;simp only[apS,bw,bx,Pz,dw,dA,bJ,dh,dB,vz])
theorem aJL (q:jh):dR (abZ q) 231 aCu:=oq [amG,auM] (aD (fM (azj q)) (aD (fM (aEZ q)) aN))
theorem arx (q:jh) (H:H95 q):fH (abZ q):=eB aN [231] (aD ⟨f231,aCu,by kernel_rfl,by kernel_rfl,aJL q⟩ aN) (hx:=(aD rq (aD lu (aD Ip (aD H.1 (aD ru (aD vC (aD JJ (aD abj aN)))))))))
def iC:Nat->jh
 |0=>⟨(fun _ _ _ _ _ _=>a7),(fun _ _ _ _ _ _=>a7),(fun _ _ _ _ _ _=>a7),(fun _ _ _ _ _ _=>a7),(fun _ _ _ _ _ _=>a7),(fun _ _ _ _ _ _=>a7),(fun _ _ _ _ _ _=>a7),(fun _ _ _ _ _ _=>a7),(fun _ _ _ _ _ _=>a7)⟩
 |r+1=>⟨aIU (iC r),awG (iC r),awI (iC r),awK (iC r),awM (iC r),awN (iC r),Dh (iC r),awO (iC r),awP (iC r)⟩
def aIX (d:List gQ) (e:bU) (f:List ig) (g h i:Int):Option MV:=(iC bV).q95 d e f g h i
def aHK:gK:=⟨148,YR,[],[],fun x y=>aIX x.1 x.2.1 x.2.2.1 x.2.2.2.1 x.2.2.2.2.1 x.2.2.2.2.2.1⟩
theorem abc (q:jh) (d:H95 q):H95 ⟨aIU q,awG q,awI q,awK q,awM q,awN q,Dh q,awO q,awP q⟩:=⟨sB (awq q d),sB (aq6 q d),sB (arc q d),sB (aro q d),sB (aru q d),sB (arv q d),sB (arq q d),sB (arw q d),sB (arx q d)⟩
theorem azC: ∀r,H95 (iC r)
 |0=>⟨oU fun _ _=>rfl,oU fun _ _=>rfl,oU fun _ _=>rfl,oU fun _ _=>rfl,oU fun _ _=>rfl,oU fun _ _=>rfl,oU fun _ _=>rfl,oU fun _ _=>rfl,oU fun _ _=>rfl⟩
 |r+1=>abc _ (azC r)
theorem aB3:eP prog 95 aHK:=(azC bV).1
noncomputable def b57:Code:=(f57.body).getD .skip
noncomputable def aF9:Code:=cA (cA (cB (cA (cB (cB (b57))))))
noncomputable def aGa:Code:=cA (cA (cA (cB (cB (cB (cB (cB (cB (b57)))))))))
def aGN:eY:=⟨[0,3,4,100003],[],[0,3],[],[2],[(2,og)]⟩
def aGO:eY:=⟨[0,5,6,7,100009],[],[5,6],[],[2],[(2,og)]⟩
def aoW:SP:=⟨us [.v pV,.u,.u,ci,cg] 56,[]⟩
def ak7:SP:=⟨us [.v pV,.u,.u,ci] 57,[]⟩
def alH:SP:=⟨us [.u,.u,ei] 58,[]⟩
def afy {e:Type} (i:(List gQ)->bU->Int->Option e) (j:(List gQ)->bU->Option e) (l:(List ig)->Option e) (d:List gQ) (g:bU) (f:Int):Option e:=cond (gU f (bM d)) (cond (fO d f) (bK (oI (dQ d (0,([],(0,(0,())))) f)) fun h=>cond (gG g h.1) (i d (cu g h.1) (bY .i64 f 1)) a7) a7)<|j d g
def QB:Nat->(List gQ)->bU->Int->Option (ak7.den⊕alH.den)
 |0,_,_,_=>a7
 |n+1,d,e,f=>afy (QB n) (fun g h=>a6 (.inl ((g,h,()),()))) (fun i=>a6 (.inr ((i,()),()))) d e f
def aKb (n:Nat) (v:aoW.den):=ba (QB n) v
noncomputable def ayQ:dG:=fK aGN aoW ak7 alH (.exit 0) (aKb bV) 6
def aoX:SP:=⟨us [.v pV,.u,.u,.u,.u,.ptr 1000024 0,cg,cg] 53,eK⟩
def ak8:SP:=⟨us [.u,.u,.u,.u,.u,.ptr 1000024 0,cg] 54,eK⟩
def alI:SP:=⟨us [.u,.u,ei] 58,[]⟩
def afz {i:Type} (j:(List gQ)->Int->Int->(List ig)->(List gQ)->bU->Int->Int->Int->Option i) (v:Int->(List ig)->(List gQ)->bU->Int->Int->Int->Option i) (x:(List ig)->Option i) (g:List gQ) (h m:Int) (o:List ig) (p:List gQ) (q:bU) (l s u:Int):Option i:=cond (gU l (bM g)) (bK (oW p q o l s u [110]) fun e=>cond e.2.1 (j g h m e.1.2.2.1 e.1.1 e.1.2.1 (bY .i64 e.1.2.2.2.1 1) e.1.2.2.2.2.1 e.1.2.2.2.2.2.1)<|cond (!(bZ m 2)) (bK (TP e.1.1 e.1.2.1 e.1.2.2.1 e.1.2.2.2.1 e.1.2.2.2.2.1 e.1.2.2.2.2.2.1) fun d=>cond d.2.1 (bK (aIX d.1.1 d.1.2.1 d.1.2.2.1 d.1.2.2.2.1 d.1.2.2.2.2.1 d.1.2.2.2.2.2.1) fun f=>j g h 2 f.1.2.2.1 f.1.1 f.1.2.1 f.1.2.2.2.1 f.1.2.2.2.2.1 f.1.2.2.2.2.2.1)<|bK (Qj d.1.1 d.1.2.1 d.1.2.2.1 d.1.2.2.2.1 d.1.2.2.2.2.1 d.1.2.2.2.2.2.1 17) fun f=>j g h 17 f.1.2.2.1 f.1.1 f.1.2.1 f.1.2.2.2.1 f.1.2.2.2.2.1 f.1.2.2.2.2.2.1)<|bK (Qj e.1.1 e.1.2.1 e.1.2.2.1 e.1.2.2.2.1 e.1.2.2.2.2.1 e.1.2.2.2.2.2.1 17) fun d=>j g h 17 d.1.2.2.1 d.1.1 d.1.2.1 d.1.2.2.2.1 d.1.2.2.2.2.1 d.1.2.2.2.2.2.1)<|v h o p q l s u
def LJ:Nat->(List gQ)->Int->Int->(List ig)->(List gQ)->bU->Int->Int->Int->Option (ak8.den⊕alI.den)
 |0,_,_,_,_,_,_,_,_,_=>a7
 |n+1,d,e,f,g,h,i,j,l,m=>afz (LJ n) (fun o p q s u v x=>a6 (.inl ((o,()),(p,(q,s,u,v,x,()),())))) (fun y=>a6 (.inr ((y,()),()))) d e f g h i j l m
def aKc (n:Nat) (v:aoX.den):=LJ n v.1.1 v.1.2.1 v.1.2.2.1 v.2.1 v.2.2.1.1 v.2.2.1.2.1 v.2.2.1.2.2.1 v.2.2.1.2.2.2.1 v.2.2.1.2.2.2.2.1
noncomputable def ayR:dG:=fK aGO aoX ak8 alI (.exit 2) (aKc bV) 12
def arV (g:List gQ):Option ((List ig)×Unit):=bK (QB bV g [] 0) fun h=>dO h (fun f=>bK (Gi f.1.1 f.1.2.1 [] 0 (-1) 0 1) fun d=>bK (LJ bV f.1.1 d.2.1 0 d.1.2.2.1 d.1.1 d.1.2.1 d.1.2.2.2.1 d.1.2.2.2.2.1 d.1.2.2.2.2.2.1) fun i=>dO i (fun e=>bK (qP e.2.2.1.1 e.2.2.1.2.1 e.2.1 e.2.2.1.2.2.1 e.2.2.1.2.2.2.1 e.2.2.1.2.2.2.2.1 e.1.1) fun j=>a6 (j.1.2.2.1,())) (fun l=>a6 (l.1.1,()))) (fun m=>a6 (m.1.1,()))
def aHw:Sum:=⟨[pV],[(.list og,false)],fun x=>arV x.1⟩
noncomputable def amP:Env:=iW prog tt 57 [(91,aHJ)] [(3,aGN),(9,aGO)] [(3,ayQ),(9,ayR)] [(92,TD),(93,KL),(94,abl),(95,aHK),(96,aqz),(97,TE)]
def az2 {d:Type} (a:aoW.den->Option d) (b:ak7.den->Option d) (c:alH.den->Option d) (v:aoW.den):Option d:=ba (afy (a8 a) (aL b) (aE c)) v
theorem aKS:dY amP 57 aF9 ayQ:=uz (az2) (h2:=by intros;simp only[az2,a8,aL,aE,ba,afy,dw,dA,bJ,dh,dB])
def az3 {d:Type} (a:aoX.den->Option d) (b:ak8.den->Option d) (c:alI.den->Option d) (v:aoX.den):Option d:=afz (fun e f g h i j l m o=>a ((e,f,g,()),(h,(i,j,l,m,o,()),()))) (fun p q s u x y z=>b ((p,()),(q,(s,u,x,y,z,()),()))) (aE c) v.1.1 v.1.2.1 v.1.2.2.1 v.2.1 v.2.2.1.1 v.2.2.1.2.1 v.2.2.1.2.2.1 v.2.2.1.2.2.2.1 v.2.2.1.2.2.2.2.1
theorem aKT:dY amP 57 aGa ayR:=uz (az3) (h2:=by intros;simp only[az3,aE,afz,dw,dA,bJ,dh,dB])
theorem aNz:dR amP 57 b57:=oq [aF9,aGa] (aD (fM (aKS)) (aD (fM (aKT)) aN))
theorem avV:fH amP:=eA f57 (aD aB2 aN) (aNz) (hx:=(aD rq (aD lu (aD Ip (aD aB3 (aD PO (aD ru aN)))))))
theorem aBH:dX prog 57 aHw:=sA avV
end
end Go.Proofs.YtdfhjhkcjecmlaaGreatDoor
