/- Parts of the proof, joined and shortened by a program: the plain machine, the functions as it prints them, and the mathematics over them. -/
import Derived.Test.YtjgoejaajmhllaaGreatDoorZ3
import Derived.Test.YtjgoejaajmhllaaGreatDoorZ4
set_option linter.unusedVariables false
set_option linter.unusedSimpArgs false
set_option maxRecDepth 100000
set_option maxHeartbeats 4000000
namespace Go.Proofs.YtjgoejaajmhllaaGreatDoor
section
open Option renaming some → a6, none → a7
open Tryz
open Go.RowKit
def auA (d:Int):Option nH:=cond (leI 4 d) (a6 ((leI d 12),()))<|some (false,())
def azf:Sum:=⟨[dw],Ip,fun x=>auA x.1⟩
theorem ajh:dE prog 224 azf:=qA Tryz.f224 [] aN
def auy (e:bQ):Option BR:=bz (ahV e) fun d=>cond (bJ d.1 1) (a6 (97,()))<|cond (bJ d.1 2) (a6 (111,()))<|cond (bJ d.1 3) (a6 (121,()))<|bz (auA d.1) fun f=>cond f.1 (a6 (60,()))<|cond (!(bJ d.1 0)) (cond (fV e 0) (a6 ((bK e 0),())) a7)<|some (63,())
def azb:Sum:=⟨[.str],[(.int .u8,false)],fun x=>auy x.1⟩
theorem aje:dE prog 212 azb:=qA f212 [] (sE PX (sE ajh aN))
def aex (d:bQ):Option BR:=cond (eX d [100,111]) (a6 (100,()))<|cond (eX d [100,111,110,101]) (a6 (103,()))<|cond (eX d [102,111,114]) (a6 (114,()))<|cond (eX d [105,110]) (a6 (107,()))<|cond (eX d [99,97,115,101]) (a6 (99,()))<|cond (eX d [101,115,97,99]) (a6 (122,()))<|some (120,())
def UF (d:bQ):Option BR:=cond (eX d [105,102]) (a6 (105,()))<|cond (eX d [116,104,101,110]) (a6 (116,()))<|cond (eX d [101,108,105,102]) (a6 (101,()))<|cond (eX d [101,108,115,101]) (a6 (108,()))<|cond (eX d [102,105]) (a6 (102,()))<|cond (eX d [119,104,105,108,101]) (cond (eX d [119,104,105,108,101]) (a6 (119,()))<|aex d)<|cond (eX d [117,110,116,105,108]) (a6 (119,()))<|aex d
def auz (d:bQ):Option BR:=cond (eX d [33]) (cond (eX d [33]) (cond (fV d 0) (a6 ((bK d 0),())) a7)<|UF d)<|cond (eX d [123]) (cond (eX d [123]) (cond (fV d 0) (a6 ((bK d 0),())) a7)<|UF d)<|cond (eX d [125]) (cond (fV d 0) (a6 ((bK d 0),())) a7)<|UF d
def azc:Sum:=⟨[.str],[(.int .u8,false)],fun x=>auz x.1⟩
theorem ajf:dE prog 213 azc:=qA f213 [] aN
def aux (d:iQ):Option BR:=cond (bJ d.1 2) (a6 (110,()))<|cond (bJ d.1 4) (bz (auy d.2.1) fun e=>a6 (e.1,()))<|cond (bJ d.1 5) (a6 (35,()))<|cond (bJ d.1 6) (bz (auz d.2.1) fun e=>a6 (e.1,()))<|some (63,())
def ay3:Sum:=⟨[tyD],[(.int .u8,false)],fun x=>aux x.1⟩
theorem ai6:dE prog 189 ay3:=qA f189 [] (sE aje (sE ajf aN))
def D9 (d:List iQ) (e:Int) (g:List jc) (h i f:Int):Option (taB×BR):=cond (leI (bD d) (bZ .i64 e f)) (a6 ((d,(e,(g,(h,(i,()))))),(0,())))<|cond (fV d (bZ .i64 e f)) (bz (aux (gu d (0,([],(0,(0,())))) (bZ .i64 e f))) fun j=>a6 ((d,(e,(g,(h,(i,()))))),(j.1,()))) a7
def adC:fP:=⟨118,uZ,[dw],[.int .u8],fun x y=>D9 x.1 x.2.1 x.2.2.1 x.2.2.2.1 x.2.2.2.2.1 y.1⟩
theorem qf:dM prog 151 adC:=qB [] (sE ai6 aN)
def aem (e:List iQ) (f:Int) (g:List jc) (h i:Int) (j:bQ):Option (taB×nH):=bz (D9 e f g h i 0) fun d=>cond (!(bJ d.2.1 0)) (bz (aed j d.2.1) fun l=>a6 ((d.1.1,(d.1.2.1,(d.1.2.2.1,(d.1.2.2.2.1,(d.1.2.2.2.2.1,()))))),((leI 0 l.1),())))<|some ((d.1.1,(d.1.2.1,(d.1.2.2.1,(d.1.2.2.2.1,(d.1.2.2.2.2.1,()))))),(false,()))
def apr:fP:=⟨118,uZ,[.str],[.bool],fun x y=>aem x.1 x.2.1 x.2.2.1 x.2.2.2.1 x.2.2.2.2.1 y.1⟩
theorem JF:dM prog 150 apr:=qB [] (sE Tq aN) (sF qf aN)
def nz (e:List iQ) (f:Int) (g:List jc) (h i:Int) (j:bQ):Option (taB×nH):=bz (aem e f g h i j) fun d=>cond (!d.2.1) (a6 ((d.1.1,(d.1.2.1,(d.1.2.2.1,(d.1.2.2.2.1,(d.1.2.2.2.2.1,()))))),(false,())))<|some ((d.1.1,((bZ .i64 d.1.2.1 1),(d.1.2.2.1,(d.1.2.2.2.1,(d.1.2.2.2.2.1,()))))),(true,()))
def uS:fP:=⟨118,uZ,[.str],[.bool],fun x y=>nz x.1 x.2.1 x.2.2.1 x.2.2.2.1 x.2.2.2.2.1 y.1⟩
theorem jW:dM prog 108 uS:=qB [] aN (sF JF aN)
def alX (f:List iQ) (g:Int) (h:List jc) (i j:Int):Option (taB×nH):=bz (D9 f g h i j 0) fun d=>cond (bJ d.2.1 60) (a6 ((d.1.1,(d.1.2.1,(d.1.2.2.1,(d.1.2.2.2.1,(d.1.2.2.2.2.1,()))))),(true,())))<|cond (bJ d.2.1 35) (bz (D9 d.1.1 d.1.2.1 d.1.2.2.1 d.1.2.2.2.1 d.1.2.2.2.2.1 1) fun e=>a6 ((e.1.1,(e.1.2.1,(e.1.2.2.1,(e.1.2.2.2.1,(e.1.2.2.2.2.1,()))))),((bJ e.2.1 60),())))<|some ((d.1.1,(d.1.2.1,(d.1.2.2.1,(d.1.2.2.2.1,(d.1.2.2.2.2.1,()))))),(false,()))
def ay4:fP:=⟨118,uZ,[],[.bool],fun x y=>alX x.1 x.2.1 x.2.2.1 x.2.2.2.1 x.2.2.2.2.1⟩
theorem TA:dM prog 190 ay4:=qB [] aN (sF qf aN)
def aeq (f:List iQ) (g:Int) (h:List jc) (i e:Int):Option (taB×nH):=cond (gJ e 200) (bz (aem f g h i e [123,40,105,119,114,99]) fun d=>a6 ((d.1.1,(d.1.2.1,(d.1.2.2.1,(d.1.2.2.2.1,(d.1.2.2.2.2.1,()))))),(d.2.1,())))<|some ((f,(g,(h,(i,(e,()))))),(false,()))
def adD:fP:=⟨118,uZ,[],[.bool],fun x y=>aeq x.1 x.2.1 x.2.2.1 x.2.2.2.1 x.2.2.2.2.1⟩
theorem JH:dM prog 191 adD:=qB [] aN (sF JF aN)
def alT (g:List iQ) (h:Int) (i:List jc) (j l:Int):Option (taB×nH):=bz (D9 g h i j l 0) fun d=>cond (bJ d.2.1 120) (a6 ((d.1.1,(d.1.2.1,(d.1.2.2.1,(d.1.2.2.2.1,(d.1.2.2.2.2.1,()))))),(true,())))<|bz (alX d.1.1 d.1.2.1 d.1.2.2.1 d.1.2.2.2.1 d.1.2.2.2.2.1) fun e=>cond e.2.1 (a6 ((e.1.1,(e.1.2.1,(e.1.2.2.1,(e.1.2.2.2.1,(e.1.2.2.2.2.1,()))))),(true,())))<|bz (aeq e.1.1 e.1.2.1 e.1.2.2.1 e.1.2.2.2.1 e.1.2.2.2.2.1) fun f=>a6 ((f.1.1,(f.1.2.1,(f.1.2.2.1,(f.1.2.2.2.1,(f.1.2.2.2.2.1,()))))),(f.2.1,()))
def aps:fP:=⟨118,uZ,[],[.bool],fun x y=>alT x.1 x.2.1 x.2.2.1 x.2.2.2.1 x.2.2.2.2.1⟩
theorem Tv:dM prog 152 aps:=qB [] aN (sF qf (sF TA (sF JH aN)))
def NP (f:List iQ) (g:Int) (h:List jc) (i j:Int):Option (taB×nH):=bz (D9 f g h i j 0) fun d=>cond (bJ d.2.1 33) (a6 ((d.1.1,(d.1.2.1,(d.1.2.2.1,(d.1.2.2.2.1,(d.1.2.2.2.2.1,()))))),(true,())))<|bz (alT d.1.1 d.1.2.1 d.1.2.2.1 d.1.2.2.2.1 d.1.2.2.2.2.1) fun e=>a6 ((e.1.1,(e.1.2.1,(e.1.2.2.1,(e.1.2.2.2.1,(e.1.2.2.2.2.1,()))))),(e.2.1,()))
def JC:fP:=⟨118,uZ,[],[.bool],fun x y=>NP x.1 x.2.1 x.2.2.1 x.2.2.2.1 x.2.2.2.2.1⟩
theorem yE:dM prog 109 JC:=qB [] aN (sF qf (sF Tv aN))
noncomputable def awm:Code:=(Tryz.f154.body).getD .skip
noncomputable def ajZ:Code:=cA (cA (cA (cB (cB (awm)))))
def amJ:dZ:=⟨[0,3,100002],[],[3],[],[2],[]⟩
def VA:SQ:=⟨[cJ,.u,.u,bX,.u,.u,.u,.u,.u],[bL],cW⟩
def V6:SQ:=⟨[.u,.u,.u,bX,.u,.u,.u,.u,.u],[bL],cW⟩
def WP:SQ:=⟨us eo 6,[bL],[]⟩
def XE {e:Type} (g h:Bool->(List iQ)->Int->Int->Int->(List jc)->Option e) (p:Bool->Option e) (f:Bool) (i:List iQ) (j l m:Int) (o:List jc):Option e:=bz (nz i j o l m [110]) fun d=>cond d.2.1 (g f d.1.1 d.1.2.1 d.1.2.2.2.1 d.1.2.2.2.2.1 d.1.2.2.1)<|h f d.1.1 d.1.2.1 d.1.2.2.2.1 d.1.2.2.2.2.1 d.1.2.2.1
def U0:Nat->Bool->(List iQ)->Int->Int->Int->(List jc)->Option (V6.den⊕WP.den)
 |0,_,_,_,_,_,_=>a7
 |n+1,d,e,f,g,h,i=>XE (U0 n) (fun j l m o p q=>a6 (.inl ((j,()),((),()),((l,m,o,p,()),q,())))) (fun s=>a6 (.inr ((s,()),((),()),()))) d e f g h i
def asj (n:Nat) (v:VA.den):=bl (U0 n) v
noncomputable def ae3:dm:=fQ amJ VA V6 WP (.exit 0) (asj bG) 6
def uC (f:List iQ) (g:Int) (h:List jc) (i j:Int):Option (taB×nH):=bz (nz f g h i j [110]) fun d=>bz (U0 bG d.2.1 d.1.1 d.1.2.1 d.1.2.2.2.1 d.1.2.2.2.2.1 d.1.2.2.1) fun l=>dL l (fun e=>a6 ((e.2.2.1.1,(e.2.2.1.2.1,(e.2.2.2.1,(e.2.2.1.2.2.1,(e.2.2.1.2.2.2.1,()))))),(e.1.1,()))) (fun m=>a7)
def zX:fP:=⟨118,uZ,[],[.bool],fun x y=>uC x.1 x.2.1 x.2.2.1 x.2.2.2.1 x.2.2.2.2.1⟩
noncomputable def aa8:Env:=gB prog tt [] [(154,2,amJ)] [(154,2,ae3)] [] [(108,uS)]
def agi {d:Type} (a:VA.den->Option d) (b:V6.den->Option d) (c:WP.den->Option d) (v:VA.den):Option d:=bl (XE (bk a) (bk b) (fun e=>c ((e,()),((),()),()))) v
theorem asY:dJ aa8 154 ajZ ae3:=nU (agi) (h2:=by intros;simp only[agi,bk,bl,XE,bV,bW,bu,bT,bY])
theorem axl:dI aa8 154 awm:=nG [ajZ] (aD (fM (asY)) aN)
theorem ahn:eF aa8:=eB aN [154] (aD ⟨Tryz.f154,awm,by kernel_rfl,by kernel_rfl,axl⟩ aN) (hx:=(aD jW aN))
theorem oz:dM prog 154 zX:=sB ahn
def jr:dZ:=⟨[0,2,6,7],[],[],[],[],[]⟩
def Eb (g:List iQ) (d:Int) (f:List jc) (e h:Int):Option qF:=cond (bJ 18 18) (cond (bJ d d) (cond (bJ e e) (cond (dN (bP f [(18,(d,(0,(e,()))))]) 32) (cond (bJ 18 18) (cond (bJ d d) (cond (bJ e e) (cond ((bJ 18 18)&&((bJ d d)&&((bJ 0 0)&&((bJ e e)&&true)))) (cond (fV (bP f [(18,(d,(0,(e,()))))]) (bD f)) (cond (lN (dh (bD f)) (bP f [(18,(d,(0,(e,()))))])) (a6 ((g,(d,((ig (bP f [(18,(d,(0,(e,()))))]) (dh (bD f)) ((dB (bP f [(18,(d,(0,(e,()))))]) (0,(0,(0,(0,())))) (dh (bD f))).1,((dB (bP f [(18,(d,(0,(e,()))))]) (0,(0,(0,(0,())))) (dh (bD f))).2.1,(d,((dB (bP f [(18,(d,(0,(e,()))))]) (0,(0,(0,(0,())))) (dh (bD f))).2.2.2.1,()))))),(e,(h,()))))),())) a7) a7) a7) a7) a7) a7) a7) a7) a7) a7
def JI:fP:=⟨118,uZ,[],[],fun x y=>Eb x.1 x.2.1 x.2.2.1 x.2.2.2.1 x.2.2.2.2.1⟩
theorem qg:dM prog 214 JI:=qB [(214,600000,su),(74,600003,jr)] aN
def al5 (d:bQ):Option nH:=cond (!(eX d [])) (bz (ahU d 0) fun e=>a6 ((bJ e.1 (bD d)),()))<|some (false,())
def avL:Sum:=⟨[.str],Ip,fun x=>al5 x.1⟩
theorem PT:dE prog 53 avL:=qA f53 [] (sE PW aN)
def auB (f:List iQ) (g:Int) (h:List jc) (i j:Int):Option (taB×nH):=bz (D9 f g h i j 0) fun e=>cond (bJ e.2.1 120) (bz (D9 e.1.1 e.1.2.1 e.1.2.2.1 e.1.2.2.2.1 e.1.2.2.2.2.1 1) fun d=>cond (bJ d.2.1 40) (cond (gJ d.1.2.2.2.2.1 200) (cond (fV d.1.1 d.1.2.1) (bz (al5 (gu d.1.1 (0,([],(0,(0,())))) d.1.2.1).2.1) fun l=>a6 ((d.1.1,(d.1.2.1,(d.1.2.2.1,(d.1.2.2.2.1,(d.1.2.2.2.2.1,()))))),(l.1,()))) a7)<|some ((d.1.1,(d.1.2.1,(d.1.2.2.1,(d.1.2.2.2.1,(d.1.2.2.2.2.1,()))))),(false,())))<|some ((d.1.1,(d.1.2.1,(d.1.2.2.1,(d.1.2.2.2.1,(d.1.2.2.2.2.1,()))))),(false,())))<|some ((e.1.1,(e.1.2.1,(e.1.2.2.1,(e.1.2.2.2.1,(e.1.2.2.2.2.1,()))))),(false,()))
def apL:fP:=⟨118,uZ,[],[.bool],fun x y=>auB x.1 x.2.1 x.2.2.1 x.2.2.2.1 x.2.2.2.2.1⟩
theorem aji:dM prog 227 apL:=qB [] (sE PT aN) (sF qf aN)
def arY:dZ:=⟨[1,2],[],[],[],[],[]⟩
def GK (h:List iQ) (d:Int) (f:List jc) (e i g:Int):Option qF:=cond (bJ g g) (cond (bJ d d) (cond (bJ e e) (cond (dN (bP f [(g,(d,(0,(e,()))))]) 32) (cond (bJ g g) (cond (bJ d d) (cond (bJ e e) (cond ((bJ g g)&&((bJ d d)&&((bJ 0 0)&&((bJ e e)&&true)))) (cond (fV (bP f [(g,(d,(0,(e,()))))]) (bD f)) (cond (lN (dh (bD f)) (bP f [(g,(d,(0,(e,()))))])) (a6 ((h,((bZ .i64 d 1),((ig (bP f [(g,(d,(0,(e,()))))]) (dh (bD f)) ((dB (bP f [(g,(d,(0,(e,()))))]) (0,(0,(0,(0,())))) (dh (bD f))).1,((dB (bP f [(g,(d,(0,(e,()))))]) (0,(0,(0,(0,())))) (dh (bD f))).2.1,((bZ .i64 d 1),((dB (bP f [(g,(d,(0,(e,()))))]) (0,(0,(0,(0,())))) (dh (bD f))).2.2.2.1,()))))),(e,(i,()))))),())) a7) a7) a7) a7) a7) a7) a7) a7) a7) a7
def Yb:fP:=⟨118,uZ,[dw],[],fun x y=>GK x.1 x.2.1 x.2.2.1 x.2.2.2.1 x.2.2.2.2.1 y.1⟩
theorem DI:dM prog 111 Yb:=qB [(111,600001,arY),(74,600003,jr)] aN
def Rz (d:List iQ) (e:Int) (f:List jc) (g h:Int):Option (taB×nH):=cond (gJ e (bD d)) (cond (fV d e) (a6 ((d,(e,(f,(g,(h,()))))),((bJ (gu d (0,([],(0,(0,())))) e).1 6),()))) a7)<|some ((d,(e,(f,(g,(h,()))))),(false,()))
def Yf:fP:=⟨118,uZ,[],[.bool],fun x y=>Rz x.1 x.2.1 x.2.2.1 x.2.2.2.1 x.2.2.2.2.1⟩
theorem DK:dM prog 243 Yf:=qB [] aN
def Ry (f:List iQ) (g:Int) (h:List jc) (i j:Int):Option qF:=bz (Rz f g h i j) fun d=>cond d.2.1 (bz (GK d.1.1 d.1.2.1 d.1.2.2.1 d.1.2.2.2.1 d.1.2.2.2.2.1 7) fun e=>a6 ((e.1.1,(e.1.2.1,(e.1.2.2.1,(e.1.2.2.2.1,(e.1.2.2.2.2.1,()))))),()))<|bz (Eb d.1.1 d.1.2.1 d.1.2.2.1 d.1.2.2.2.1 d.1.2.2.2.2.1) fun e=>a6 ((e.1.1,(e.1.2.1,(e.1.2.2.1,(e.1.2.2.2.1,(e.1.2.2.2.2.1,()))))),())
def Ye:fP:=⟨118,uZ,[],[],fun x y=>Ry x.1 x.2.1 x.2.2.1 x.2.2.2.1 x.2.2.2.2.1⟩
theorem DJ:dM prog 241 Ye:=qB [] aN (sF DI (sF qg (sF DK aN)))
def aeO:dZ:=⟨[1],[],[],[],[],[]⟩
def JZ (h:List iQ) (i:Int) (j:List jc) (l m:Int):Option (taB×nH):=bz (alX h i j l m) fun d=>cond (!d.2.1) (a6 ((d.1.1,(d.1.2.1,(d.1.2.2.1,(d.1.2.2.2.1,(d.1.2.2.2.2.1,()))))),(false,())))<|cond (bJ 8 8) (cond (bJ d.1.2.1 d.1.2.1) (cond (bJ d.1.2.2.2.1 d.1.2.2.2.1) (cond (dN (bP d.1.2.2.1 [(8,(d.1.2.1,(0,(d.1.2.2.2.1,()))))]) 32) (cond (bJ 8 8) (cond (bJ d.1.2.1 d.1.2.1) (cond (bJ d.1.2.2.2.1 d.1.2.2.2.1) (cond ((bJ 8 8)&&((bJ d.1.2.1 d.1.2.1)&&((bJ 0 0)&&((bJ d.1.2.2.2.1 d.1.2.2.2.1)&&true)))) (bz (nz d.1.1 d.1.2.1 (bP d.1.2.2.1 [(8,(d.1.2.1,(0,(d.1.2.2.2.1,()))))]) (bD d.1.2.2.1) d.1.2.2.2.2.1 [35]) fun f=>bz (nz f.1.1 f.1.2.1 f.1.2.2.1 f.1.2.2.2.1 f.1.2.2.2.2.1 [60]) fun g=>bz (Ry g.1.1 g.1.2.1 g.1.2.2.1 g.1.2.2.2.1 g.1.2.2.2.2.1) fun e=>cond (fV e.1.2.2.1 (bD d.1.2.2.1)) (cond (lN (dh (bD d.1.2.2.1)) e.1.2.2.1) (a6 ((e.1.1,(e.1.2.1,((ig e.1.2.2.1 (dh (bD d.1.2.2.1)) ((dB e.1.2.2.1 (0,(0,(0,(0,())))) (dh (bD d.1.2.2.1))).1,((dB e.1.2.2.1 (0,(0,(0,(0,())))) (dh (bD d.1.2.2.1))).2.1,(e.1.2.1,((dB e.1.2.2.1 (0,(0,(0,(0,())))) (dh (bD d.1.2.2.1))).2.2.2.1,()))))),(d.1.2.2.2.1,(e.1.2.2.2.2.1,()))))),(true,()))) a7) a7) a7) a7) a7) a7) a7) a7) a7) a7
def adE:fP:=⟨118,uZ,[],[.bool],fun x y=>JZ x.1 x.2.1 x.2.2.1 x.2.2.2.1 x.2.2.2.2.1⟩
theorem TB:dM prog 240 adE:=qB [(240,600003,aeO),(74,600003,jr)] aN (sF jW (sF TA (sF DJ aN)))
def auE (d:bQ):Option (bQ×bQ×Bool×Unit):=bz (ahU d 0) fun e=>cond (bJ e.1 0) (a6 ([],([],(false,()))))<|cond (bJ e.1 (bD d)) (a6 ([],([],(false,()))))<|cond (fV d e.1) (cond (!(bJ (bK d e.1) 61)) (a6 ([],([],(false,()))))<|cond (eG (bD d) 0 e.1) (cond (eG (bD d) (bZ .i64 e.1 1) (bD d)) (a6 ((sub d 0 e.1),((sub d (bZ .i64 e.1 1) (bD d)),(true,())))) a7) a7) a7
def azr:Sum:=⟨[.str],[(.str,false),(.str,false),(.bool,false)],fun x=>auE x.1⟩
theorem ajl:dE prog 249 azr:=qA f249 [] (sE PW aN)
def auD (d:bQ):Option nH:=bz (auE d) fun e=>a6 (e.2.2.1,())
def apP:Sum:=⟨[.str],Ip,fun x=>auD x.1⟩
theorem ajk:dE prog 244 apP:=qA f244 [] (sE ajl aN)
noncomputable def awn:Code:=(f230.body).getD .skip
noncomputable def aka:Code:=cA (cA (cB (cB (cA (awn)))))
def amR:dZ:=⟨[0,2,100003],[],[],[],[],[]⟩
def VK:SQ:=⟨us [cJ,.u,bX] 28,[bL],cW⟩
def Wn:SQ:=⟨us [] 31,[bL],cW⟩
def WY:SQ:=⟨us [] 31,[bL],[]⟩
def XG {h:Type} (i:Bool->(List iQ)->Int->Int->Int->(List jc)->Option h) (l:(List iQ)->Int->Int->Int->(List jc)->Option h) (u:Option h) (j:Bool) (m:List iQ) (o p q:Int) (s:List jc):Option h:=bz (JZ m o s p q) fun e=>cond e.2.1 (i j e.1.1 e.1.2.1 e.1.2.2.2.1 e.1.2.2.2.2.1 e.1.2.2.1)<|bz (Rz e.1.1 e.1.2.1 e.1.2.2.1 e.1.2.2.2.1 e.1.2.2.2.2.1) fun d=>cond (!d.2.1) (l d.1.1 d.1.2.1 d.1.2.2.2.1 d.1.2.2.2.2.1 d.1.2.2.1)<|cond (!j) (cond (fV d.1.1 d.1.2.1) (bz (auD (gu d.1.1 (0,([],(0,(0,())))) d.1.2.1).2.1) fun g=>cond g.1 (bz (GK d.1.1 d.1.2.1 d.1.2.2.1 d.1.2.2.2.1 d.1.2.2.2.2.1 6) fun f=>i j f.1.1 f.1.2.1 f.1.2.2.2.1 f.1.2.2.2.2.1 f.1.2.2.1)<|bz (GK d.1.1 d.1.2.1 d.1.2.2.1 d.1.2.2.2.1 d.1.2.2.2.2.1 7) fun f=>i true f.1.1 f.1.2.1 f.1.2.2.2.1 f.1.2.2.2.2.1 f.1.2.2.1) a7)<|bz (GK d.1.1 d.1.2.1 d.1.2.2.1 d.1.2.2.2.1 d.1.2.2.2.2.1 7) fun g=>i true g.1.1 g.1.2.1 g.1.2.2.2.1 g.1.2.2.2.2.1 g.1.2.2.1
def U1:Nat->Bool->(List iQ)->Int->Int->Int->(List jc)->Option (Wn.den⊕WY.den)
 |0,_,_,_,_,_,_=>a7
 |n+1,d,e,f,g,h,i=>XG (U1 n) (fun j l m o p=>a6 (.inl ((),((),()),((j,l,m,o,()),p,())))) (a6 (.inr ((),((),()),()))) d e f g h i
def asv (n:Nat) (v:VK.den):=bl (U1 n) v
noncomputable def afc:dm:=fQ amR VK Wn WY (.exit 0) (asv bG) 6
def auC (e:List iQ) (f:Int) (g:List jc) (h i:Int):Option qF:=bz (U1 bG false e f h i g) fun j=>dL j (fun d=>a6 ((d.2.2.1.1,(d.2.2.1.2.1,(d.2.2.2.1,(d.2.2.1.2.2.1,(d.2.2.1.2.2.2.1,()))))),())) (fun l=>a7)
def apN:fP:=⟨118,uZ,[],[],fun x y=>auC x.1 x.2.1 x.2.2.1 x.2.2.2.1 x.2.2.2.2.1⟩
noncomputable def abd:Env:=gB prog tt [(244,apP)] [(230,3,amR)] [(230,3,afc)] [] [(111,Yb),(240,adE),(243,Yf)]
def ags {d:Type} (a:VK.den->Option d) (b:Wn.den->Option d) (c:WY.den->Option d) (v:VK.den):Option d:=bl (XG (bk a) (bm b) (c ((),((),()),()))) v
theorem as8:dJ abd 230 aka afc:=nU (ags) (h2:=by intros;simp only[ags,bk,bm,bl,XG,bV,bW,bu,bT,bY])
theorem axq:dI abd 230 awn:=nG [aka] (aD (fM (as8)) aN)
theorem ahw:eF abd:=eB (aD ajk aN) [230] (aD ⟨f230,awn,by kernel_rfl,by kernel_rfl,axq⟩ aN) (hx:=(aD DI (aD TB (aD DK aN))))
theorem ajj:dM prog 230 apN:=sB ahw
def xQ (f:List iQ) (g:Int) (h:List jc) (i j:Int) (l:bQ):Option qF:=bz (nz f g h i j l) fun d=>cond (!d.2.1) (bz (Eb d.1.1 d.1.2.1 d.1.2.2.1 d.1.2.2.2.1 d.1.2.2.2.2.1) fun e=>a6 ((e.1.1,(e.1.2.1,(e.1.2.2.1,(e.1.2.2.2.1,(e.1.2.2.2.2.1,()))))),()))<|some ((d.1.1,(d.1.2.1,(d.1.2.2.1,(d.1.2.2.2.1,(d.1.2.2.2.2.1,()))))),())
def BO:fP:=⟨118,uZ,[.str],[],fun x y=>xQ x.1 x.2.1 x.2.2.1 x.2.2.2.1 x.2.2.2.2.1 y.1⟩
theorem qh:dM prog 242 BO:=qB [] aN (sF jW (sF qg aN))
structure dW where
 q110:(List iQ)->Int->(List jc)->Int->Int->Option qF
 q153:(List iQ)->Int->(List jc)->Int->Int->Option qF
 q192:(List iQ)->Int->(List jc)->Int->Int->Option qF
 q216:(List iQ)->Int->(List jc)->Int->Int->Option qF
 q229:(List iQ)->Int->(List jc)->Int->Int->Option qF
 q226:(List iQ)->Int->(List jc)->Int->Int->Option qF
 q245:(List iQ)->Int->(List jc)->Int->Int->Option qF
 q233:(List iQ)->Int->(List jc)->Int->Int->Option qF
 q234:(List iQ)->Int->(List jc)->Int->Int->Option qF
 q235:(List iQ)->Int->(List jc)->Int->Int->Option qF
 q236:(List iQ)->Int->(List jc)->Int->Int->Option qF
 q237:(List iQ)->Int->(List jc)->Int->Int->Option qF
 q238:(List iQ)->Int->(List jc)->Int->Int->Option qF
 q247:(List iQ)->Int->(List jc)->Int->Int->Option qF
 q246:(List iQ)->Int->(List jc)->Int->Int->Option qF
def Ya (q:dW):fP:=⟨118,uZ,[],[],fun x y=>q.q110 x.1 x.2.1 x.2.2.1 x.2.2.2.1 x.2.2.2.2.1⟩
def agJ (q:dW):fP:=⟨118,uZ,[],[],fun x y=>q.q153 x.1 x.2.1 x.2.2.1 x.2.2.2.1 x.2.2.2.2.1⟩
def agK (q:dW):fP:=⟨118,uZ,[],[],fun x y=>q.q192 x.1 x.2.1 x.2.2.1 x.2.2.2.1 x.2.2.2.2.1⟩
def agL (q:dW):fP:=⟨118,uZ,[],[],fun x y=>q.q216 x.1 x.2.1 x.2.2.1 x.2.2.2.1 x.2.2.2.2.1⟩
def agM (q:dW):fP:=⟨118,uZ,[],[],fun x y=>q.q229 x.1 x.2.1 x.2.2.1 x.2.2.2.1 x.2.2.2.2.1⟩
def Yd (q:dW):fP:=⟨118,uZ,[],[],fun x y=>q.q226 x.1 x.2.1 x.2.2.1 x.2.2.2.1 x.2.2.2.2.1⟩
def DL (q:dW):fP:=⟨118,uZ,[],[],fun x y=>q.q245 x.1 x.2.1 x.2.2.1 x.2.2.2.1 x.2.2.2.2.1⟩
def agN (q:dW):fP:=⟨118,uZ,[],[],fun x y=>q.q233 x.1 x.2.1 x.2.2.1 x.2.2.2.1 x.2.2.2.2.1⟩
def agO (q:dW):fP:=⟨118,uZ,[],[],fun x y=>q.q234 x.1 x.2.1 x.2.2.1 x.2.2.2.1 x.2.2.2.2.1⟩
def agP (q:dW):fP:=⟨118,uZ,[],[],fun x y=>q.q235 x.1 x.2.1 x.2.2.1 x.2.2.2.1 x.2.2.2.2.1⟩
def agQ (q:dW):fP:=⟨118,uZ,[],[],fun x y=>q.q236 x.1 x.2.1 x.2.2.1 x.2.2.2.1 x.2.2.2.2.1⟩
def agR (q:dW):fP:=⟨118,uZ,[],[],fun x y=>q.q237 x.1 x.2.1 x.2.2.1 x.2.2.2.1 x.2.2.2.2.1⟩
def agS (q:dW):fP:=⟨118,uZ,[],[],fun x y=>q.q238 x.1 x.2.1 x.2.2.1 x.2.2.2.1 x.2.2.2.2.1⟩
def agT (q:dW):fP:=⟨118,uZ,[],[],fun x y=>q.q247 x.1 x.2.1 x.2.2.1 x.2.2.2.1 x.2.2.2.2.1⟩
def Yg (q:dW):fP:=⟨118,uZ,[],[],fun x y=>q.q246 x.1 x.2.1 x.2.2.1 x.2.2.2.1 x.2.2.2.2.1⟩
noncomputable def awi:Code:=(f110.body).getD .skip
noncomputable def ajT:Code:=cA (cA (cB (cA (awi))))
def amD:dZ:=⟨[0,100000],[],[],[],[],[]⟩
def Vs:SQ:=⟨us bL 15,[bL],cW⟩
def VW:SQ:=⟨us [] 16,[bL],cW⟩
def WH:SQ:=⟨us [] 16,[bL],[]⟩
def Xy (q:dW) {l:Type} (o m:(List iQ)->Int->Int->Int->(List jc)->Option l) (u:Option l) (p:List iQ) (h i s:Int) (j:List jc):Option l:=cond (bJ 3 3) (cond (bJ h h) (cond (bJ i i) (cond (dN (bP j [(3,(h,(0,(i,()))))]) 32) (cond (bJ 3 3) (cond (bJ h h) (cond (bJ i i) (cond ((bJ 3 3)&&((bJ h h)&&((bJ 0 0)&&((bJ i i)&&true)))) (bz (q.q153 p h (bP j [(3,(h,(0,(i,()))))]) (bD j) s) fun g=>cond (fV g.1.2.2.1 (bD j)) (cond (lN (dh (bD j)) g.1.2.2.1) (bz (nz g.1.1 g.1.2.1 (ig g.1.2.2.1 (dh (bD j)) ((dB g.1.2.2.1 (0,(0,(0,(0,())))) (dh (bD j))).1,((dB g.1.2.2.1 (0,(0,(0,(0,())))) (dh (bD j))).2.1,(g.1.2.1,((dB g.1.2.2.1 (0,(0,(0,(0,())))) (dh (bD j))).2.2.2.1,()))))) i g.1.2.2.2.2.1 [59,38]) fun f=>cond f.2.1 (bz (uC f.1.1 f.1.2.1 f.1.2.2.1 f.1.2.2.2.1 f.1.2.2.2.2.1) fun e=>bz (NP e.1.1 e.1.2.1 e.1.2.2.1 e.1.2.2.2.1 e.1.2.2.2.2.1) fun d=>cond (!d.2.1) (m d.1.1 d.1.2.1 d.1.2.2.2.1 d.1.2.2.2.2.1 d.1.2.2.1)<|o d.1.1 d.1.2.1 d.1.2.2.2.1 d.1.2.2.2.2.1 d.1.2.2.1)<|bz (uC f.1.1 f.1.2.1 f.1.2.2.1 f.1.2.2.2.1 f.1.2.2.2.2.1) fun e=>cond (!e.2.1) (m e.1.1 e.1.2.1 e.1.2.2.2.1 e.1.2.2.2.2.1 e.1.2.2.1)<|bz (NP e.1.1 e.1.2.1 e.1.2.2.1 e.1.2.2.2.1 e.1.2.2.2.2.1) fun d=>cond (!d.2.1) (m d.1.1 d.1.2.1 d.1.2.2.2.1 d.1.2.2.2.2.1 d.1.2.2.1)<|o d.1.1 d.1.2.1 d.1.2.2.2.1 d.1.2.2.2.2.1 d.1.2.2.1) a7) a7) a7) a7) a7) a7) a7) a7) a7) a7
def UW (q:dW):Nat->(List iQ)->Int->Int->Int->(List jc)->Option (VW.den⊕WH.den)
 |0,_,_,_,_,_=>a7
 |n+1,d,e,f,g,h=>Xy q (UW q n) (fun i j l m o=>a6 (.inl ((),((),()),((i,j,l,m,()),o,())))) (a6 (.inr ((),((),()),()))) d e f g h
def asa (q:dW) (n:Nat) (v:Vs.den):=bo (UW q n) v
noncomputable def aeX (q:dW):dm:=fQ amD Vs VW WH (.exit 0) (asa q bG) 6
def aAq (q:dW) (e:List iQ) (f:Int) (g:List jc) (h i:Int):Option qF:=bz (UW q bG e f h i g) fun j=>dL j (fun d=>a6 ((d.2.2.1.1,(d.2.2.1.2.1,(d.2.2.2.1,(d.2.2.1.2.2.1,(d.2.2.1.2.2.2.1,()))))),())) (fun l=>a7)
noncomputable def aa2 (q:dW):Env:=gB prog tt [] [(110,0,amD),(110,600000,su),(74,600003,jr)] [(110,0,aeX q)] [] [(108,uS),(109,JC),(153,agJ q),(154,zX)]
def aga (q:dW) {d:Type} (a:Vs.den->Option d) (b:VW.den->Option d) (c:WH.den->Option d) (v:Vs.den):Option d:=bo (Xy q (bm a) (bm b) (c ((),((),()),()))) v
theorem asP (q:dW):dJ (aa2 q) 110 ajT (aeX q):=nU (aga q) (h2:=by intros;simp only[aga,bm,bo,Xy,bV,bW,bu,bT,bY])
theorem axe (q:dW):dI (aa2 q) 110 awi:=nG [ajT] (aD (fM (asP q)) aN)
abbrev DV (q:dW):Prop:=dM prog 110 (Ya q)/\dM prog 153 (agJ q)/\dM prog 192 (agK q)/\dM prog 216 (agL q)/\dM prog 229 (agM q)/\dM prog 226 (Yd q)/\dM prog 245 (DL q)/\dM prog 233 (agN q)/\dM prog 234 (agO q)/\dM prog 235 (agP q)/\dM prog 236 (agQ q)/\dM prog 237 (agR q)/\dM prog 238 (agS q)/\dM prog 247 (agT q)/\dM prog 246 (Yg q)
theorem ahf (q:dW) (H:DV q):eF (aa2 q):=eB aN [110] (aD ⟨f110,awi,by kernel_rfl,by kernel_rfl,axe q⟩ aN) (hx:=(aD jW (aD yE (aD H.2.1 (aD oz aN)))))
noncomputable def awl:Code:=(f153.body).getD .skip
noncomputable def ajY:Code:=cA (cA (cB (awl)))
def amI:dZ:=⟨[0,100001],[],[],[],[],[]⟩
def Vz:SQ:=⟨us bL 9,[bL],cW⟩
def V5:SQ:=⟨us [] 10,[bL],cW⟩
def WO:SQ:=⟨us [] 10,[bL],[]⟩
def XD (q:dW) {g:Type} (h i:(List iQ)->Int->Int->Int->(List jc)->Option g) (s:Option g) (j:List iQ) (l m o:Int) (p:List jc):Option g:=bz (nz j l p m o [97,111]) fun d=>cond d.2.1 (bz (uC d.1.1 d.1.2.1 d.1.2.2.1 d.1.2.2.2.1 d.1.2.2.2.2.1) fun e=>bz (q.q192 e.1.1 e.1.2.1 e.1.2.2.1 e.1.2.2.2.1 e.1.2.2.2.2.1) fun f=>h f.1.1 f.1.2.1 f.1.2.2.2.1 f.1.2.2.2.2.1 f.1.2.2.1)<|i d.1.1 d.1.2.1 d.1.2.2.2.1 d.1.2.2.2.2.1 d.1.2.2.1
def UZ (q:dW):Nat->(List iQ)->Int->Int->Int->(List jc)->Option (V5.den⊕WO.den)
 |0,_,_,_,_,_=>a7
 |n+1,d,e,f,g,h=>XD q (UZ q n) (fun i j l m o=>a6 (.inl ((),((),()),((i,j,l,m,()),o,())))) (a6 (.inr ((),((),()),()))) d e f g h
def asi (q:dW) (n:Nat) (v:Vz.den):=bo (UZ q n) v
noncomputable def ae2 (q:dW):dm:=fQ amI Vz V5 WO (.exit 0) (asi q bG) 6
def aAr (q:dW) (f:List iQ) (g:Int) (h:List jc) (i j:Int):Option qF:=bz (q.q192 f g h i j) fun d=>bz (UZ q bG d.1.1 d.1.2.1 d.1.2.2.2.1 d.1.2.2.2.2.1 d.1.2.2.1) fun l=>dL l (fun e=>a6 ((e.2.2.1.1,(e.2.2.1.2.1,(e.2.2.2.1,(e.2.2.1.2.2.1,(e.2.2.1.2.2.2.1,()))))),())) (fun m=>a7)
noncomputable def aa7 (q:dW):Env:=gB prog tt [] [(153,1,amI)] [(153,1,ae2 q)] [] [(108,uS),(154,zX),(192,agK q)]
def agh (q:dW) {d:Type} (a:Vz.den->Option d) (b:V5.den->Option d) (c:WO.den->Option d) (v:Vz.den):Option d:=bo (XD q (bm a) (bm b) (c ((),((),()),()))) v
theorem asX (q:dW):dJ (aa7 q) 153 ajY (ae2 q):=nU (agh q) (h2:=by intros;simp only[agh,bm,bo,XD,bV,bW,bu,bT,bY])
theorem axk (q:dW):dI (aa7 q) 153 awl:=nG [ajY] (aD (fM (asX q)) aN)
theorem ahm (q:dW) (H:DV q):eF (aa7 q):=eB aN [153] (aD ⟨f153,awl,by kernel_rfl,by kernel_rfl,axk q⟩ aN) (hx:=(aD jW (aD oz (aD H.2.2.1 aN))))
noncomputable def MZ:Code:=(f215.body).getD .skip
noncomputable def Np:Code:=cA (cA (cB (cB (MZ))))
def N8:dZ:=⟨[0,216000002],[],[],[],[],[]⟩
def zB:SQ:=⟨us [ei] 10,bR,[ci,bA,cj]⟩
def Bj:SQ:=⟨us [] 11,bR,[ci,bA,cj]⟩
def Bq:SQ:=⟨us [] 11,bR,[]⟩
def BD (q:dW) {g:Type} (j l:Int->Int->(List iQ)->Int->Int->Int->(List jc)->Option g) (v:Int->Int->Option g) (h i:Int) (m:List iQ) (o p s:Int) (u:List jc):Option g:=bz (nz m o u p s [124]) fun d=>cond d.2.1 (bz (uC d.1.1 d.1.2.1 d.1.2.2.1 d.1.2.2.2.1 d.1.2.2.2.2.1) fun e=>bz (q.q216 e.1.1 e.1.2.1 e.1.2.2.1 e.1.2.2.2.1 e.1.2.2.2.2.1) fun f=>j h i f.1.1 f.1.2.1 f.1.2.2.2.1 f.1.2.2.2.2.1 f.1.2.2.1)<|l h i d.1.1 d.1.2.1 d.1.2.2.2.1 d.1.2.2.2.2.1 d.1.2.2.1
def AX (q:dW):Nat->Int->Int->(List iQ)->Int->Int->Int->(List jc)->Option (Bj.den⊕Bq.den)
 |0,_,_,_,_,_,_,_=>a7
 |n+1,d,e,f,g,h,i,j=>BD q (AX q n) (fun l m o p s u v=>a6 (.inl ((),((l,m,()),(),(),()),((),(o,p,s,u,()),v,())))) (fun x y=>a6 (.inr ((),((x,y,()),(),(),()),()))) d e f g h i j
def Zu (q:dW) (n:Nat) (v:zB.den):=AX q n v.2.1.1.1 v.2.1.1.2.1 v.2.2.2.1.1 v.2.2.2.1.2.1 v.2.2.2.1.2.2.1 v.2.2.2.1.2.2.2.1 v.2.2.2.2.1
noncomputable def Kt (q:dW):dm:=fQ N8 zB Bj Bq (.exit 0) (Zu q bG) 6
def aAs (q:dW) (h:List iQ) (i:Int) (j:List jc) (l m:Int):Option qF:=bz (NP h i j l m) fun d=>cond (!d.2.1) (bz (Eb d.1.1 d.1.2.1 d.1.2.2.1 d.1.2.2.2.1 d.1.2.2.2.2.1) fun f=>a6 ((f.1.1,(f.1.2.1,(f.1.2.2.1,(f.1.2.2.2.1,(f.1.2.2.2.2.1,()))))),()))<|cond (bJ 4 4) (cond (bJ d.1.2.1 d.1.2.1) (cond (bJ d.1.2.2.2.1 d.1.2.2.2.1) (cond (dN (bP d.1.2.2.1 [(4,(d.1.2.1,(0,(d.1.2.2.2.1,()))))]) 32) (cond (bJ 4 4) (cond (bJ d.1.2.1 d.1.2.1) (cond (bJ d.1.2.2.2.1 d.1.2.2.2.1) (cond ((bJ 4 4)&&((bJ d.1.2.1 d.1.2.1)&&((bJ 0 0)&&((bJ d.1.2.2.2.1 d.1.2.2.2.1)&&true)))) (bz (nz d.1.1 d.1.2.1 (bP d.1.2.2.1 [(4,(d.1.2.1,(0,(d.1.2.2.2.1,()))))]) (bD d.1.2.2.1) d.1.2.2.2.2.1 [33]) fun f=>bz (q.q216 f.1.1 f.1.2.1 f.1.2.2.1 f.1.2.2.2.1 f.1.2.2.2.2.1) fun g=>bz (AX q bG (bD d.1.2.2.1) d.1.2.2.2.1 g.1.1 g.1.2.1 g.1.2.2.2.1 g.1.2.2.2.2.1 g.1.2.2.1) fun o=>dL o (fun e=>cond (fV e.2.2.2.2.1 e.2.1.1.1) (cond (lN (dh e.2.1.1.1) e.2.2.2.2.1) (a6 ((e.2.2.2.1.1,(e.2.2.2.1.2.1,((ig e.2.2.2.2.1 (dh e.2.1.1.1) ((dB e.2.2.2.2.1 (0,(0,(0,(0,())))) (dh e.2.1.1.1)).1,((dB e.2.2.2.2.1 (0,(0,(0,(0,())))) (dh e.2.1.1.1)).2.1,(e.2.2.2.1.2.1,((dB e.2.2.2.2.1 (0,(0,(0,(0,())))) (dh e.2.1.1.1)).2.2.2.1,()))))),(e.2.1.1.2.1,(e.2.2.2.1.2.2.2.1,()))))),())) a7) a7) (fun p=>a7)) a7) a7) a7) a7) a7) a7) a7) a7
noncomputable def abb (q:dW):Env:=gB prog tt [] [(215,2,N8),(192,600003,aeO),(74,600003,jr)] [(215,2,Kt q)] [] [(108,uS),(109,JC),(154,zX),(214,JI),(216,agL q)]
def KP (q:dW) {d:Type} (a:zB.den->Option d) (b:Bj.den->Option d) (c:Bq.den->Option d) (v:zB.den):Option d:=BD q (fun e f g h i j l=>a ((),((e,f,()),(),(),()),((),(g,h,i,j,()),l,()))) (fun m o p s u x y=>b ((),((m,o,()),(),(),()),((),(p,s,u,x,()),y,()))) (fun z A=>c ((),((z,A,()),(),(),()),())) v.2.1.1.1 v.2.1.1.2.1 v.2.2.2.1.1 v.2.2.2.1.2.1 v.2.2.2.1.2.2.1 v.2.2.2.1.2.2.2.1 v.2.2.2.2.1
theorem ZJ (q:dW):dJ (abb q) 215 Np (Kt q):=nU (KP q) (h2:=by intros;simp only[KP,BD,bV,bW,bu,bT,bY])
theorem ab2 (q:dW):dI (abb q) 215 MZ:=nG [Np] (aD (fM (ZJ q)) aN)
theorem ahr (q:dW) (H:DV q):eF (abb q):=eB aN [215] (aD ⟨f215,MZ,by kernel_rfl,by kernel_rfl,ab2 q⟩ aN) (hx:=(aD jW (aD yE (aD oz (aD qg (aD H.2.2.2.1 aN))))))
def J9:dZ:=⟨[0,1,2],[],[],[],[],[]⟩
def aAt (q:dW) (h:List iQ) (i:Int) (j:List jc) (l m:Int):Option qF:=bz (aeq h i j l m) fun g=>cond g.2.1 (bz (q.q226 g.1.1 g.1.2.1 g.1.2.2.1 g.1.2.2.2.1 g.1.2.2.2.2.1) fun e=>a6 ((e.1.1,(e.1.2.1,(e.1.2.2.1,(e.1.2.2.2.1,(e.1.2.2.2.2.1,()))))),()))<|bz (auB g.1.1 g.1.2.1 g.1.2.2.1 g.1.2.2.2.1 g.1.2.2.2.2.1) fun e=>cond e.2.1 (cond (bJ 16 16) (cond (bJ e.1.2.1 e.1.2.1) (cond (bJ e.1.2.2.2.1 e.1.2.2.2.1) (cond (dN (bP e.1.2.2.1 [(16,(e.1.2.1,(0,(e.1.2.2.2.1,()))))]) 32) (cond (bJ 16 16) (cond (bJ e.1.2.1 e.1.2.1) (cond (bJ e.1.2.2.2.1 e.1.2.2.2.1) (cond ((bJ 16 16)&&((bJ e.1.2.1 e.1.2.1)&&((bJ 0 0)&&((bJ e.1.2.2.2.1 e.1.2.2.2.1)&&true)))) (bz (q.q229 e.1.1 e.1.2.1 (bP e.1.2.2.1 [(16,(e.1.2.1,(0,(e.1.2.2.2.1,()))))]) (bD e.1.2.2.1) (bZ .i64 e.1.2.2.2.2.1 1)) fun d=>cond (fV d.1.2.2.1 (bD e.1.2.2.1)) (cond (lN (dh (bD e.1.2.2.1)) d.1.2.2.1) (a6 ((d.1.1,(d.1.2.1,((ig d.1.2.2.1 (dh (bD e.1.2.2.1)) ((dB d.1.2.2.1 (0,(0,(0,(0,())))) (dh (bD e.1.2.2.1))).1,((dB d.1.2.2.1 (0,(0,(0,(0,())))) (dh (bD e.1.2.2.1))).2.1,(d.1.2.1,((dB d.1.2.2.1 (0,(0,(0,(0,())))) (dh (bD e.1.2.2.1))).2.2.2.1,()))))),(e.1.2.2.2.1,((ed .i64 d.1.2.2.2.2.1 1),()))))),())) a7) a7) a7) a7) a7) a7) a7) a7) a7) a7)<|bz (alT e.1.1 e.1.2.1 e.1.2.2.1 e.1.2.2.2.1 e.1.2.2.2.2.1) fun d=>cond d.2.1 (cond (bJ 5 5) (cond (bJ d.1.2.1 d.1.2.1) (cond (bJ d.1.2.2.2.1 d.1.2.2.2.1) (cond (dN (bP d.1.2.2.1 [(5,(d.1.2.1,(0,(d.1.2.2.2.1,()))))]) 32) (cond (bJ 5 5) (cond (bJ d.1.2.1 d.1.2.1) (cond (bJ d.1.2.2.2.1 d.1.2.2.2.1) (cond ((bJ 5 5)&&((bJ d.1.2.1 d.1.2.1)&&((bJ 0 0)&&((bJ d.1.2.2.2.1 d.1.2.2.2.1)&&true)))) (bz (auC d.1.1 d.1.2.1 (bP d.1.2.2.1 [(5,(d.1.2.1,(0,(d.1.2.2.2.1,()))))]) (bD d.1.2.2.1) d.1.2.2.2.2.1) fun f=>cond (fV f.1.2.2.1 (bD d.1.2.2.1)) (cond (lN (dh (bD d.1.2.2.1)) f.1.2.2.1) (a6 ((f.1.1,(f.1.2.1,((ig f.1.2.2.1 (dh (bD d.1.2.2.1)) ((dB f.1.2.2.1 (0,(0,(0,(0,())))) (dh (bD d.1.2.2.1))).1,((dB f.1.2.2.1 (0,(0,(0,(0,())))) (dh (bD d.1.2.2.1))).2.1,(f.1.2.1,((dB f.1.2.2.1 (0,(0,(0,(0,())))) (dh (bD d.1.2.2.1))).2.2.2.1,()))))),(d.1.2.2.2.1,(f.1.2.2.2.2.1,()))))),())) a7) a7) a7) a7) a7) a7) a7) a7) a7) a7)<|bz (Eb d.1.1 d.1.2.1 d.1.2.2.1 d.1.2.2.2.1 d.1.2.2.2.2.1) fun f=>a6 ((f.1.1,(f.1.2.1,(f.1.2.2.1,(f.1.2.2.2.1,(f.1.2.2.2.2.1,()))))),())
noncomputable def aww (q:dW):Env:=gB prog tt [] [(216,600004,su),(216,600006,su),(74,600003,jr),(228,600001,J9)] [] [] [(152,aps),(191,adD),(214,JI),(226,Yd q),(227,apL),(229,agM q),(230,apN)]
theorem aht (q:dW) (H:DV q):eF (aww q):=eB aN [] aN (hx:=(aD Tv (aD JH (aD qg (aD H.2.2.2.2.2.1 (aD aji (aD H.2.2.2.2.1 (aD ajj aN))))))))
def aAv (q:dW) (j:List iQ) (l:Int) (m:List jc) (o p:Int):Option qF:=bz (Ry j l m o p) fun f=>bz (nz f.1.1 f.1.2.1 f.1.2.2.1 f.1.2.2.2.1 f.1.2.2.2.2.1 [40]) fun g=>bz (xQ g.1.1 g.1.2.1 g.1.2.2.1 g.1.2.2.2.1 g.1.2.2.2.2.1 [41]) fun h=>bz (uC h.1.1 h.1.2.1 h.1.2.2.1 h.1.2.2.2.1 h.1.2.2.2.2.1) fun i=>bz (aeq i.1.1 i.1.2.1 i.1.2.2.1 i.1.2.2.2.1 i.1.2.2.2.2.1) fun d=>cond d.2.1 (bz (q.q226 d.1.1 d.1.2.1 d.1.2.2.1 d.1.2.2.2.1 d.1.2.2.2.2.1) fun e=>a6 ((e.1.1,(e.1.2.1,(e.1.2.2.1,(e.1.2.2.2.1,(e.1.2.2.2.2.1,()))))),()))<|bz (Eb d.1.1 d.1.2.1 d.1.2.2.1 d.1.2.2.2.1 d.1.2.2.2.2.1) fun e=>a6 ((e.1.1,(e.1.2.1,(e.1.2.2.1,(e.1.2.2.2.1,(e.1.2.2.2.2.1,()))))),())
noncomputable def awx (q:dW):Env:=gB prog tt [] [] [] [] [(108,uS),(154,zX),(191,adD),(214,JI),(226,Yd q),(241,Ye),(242,BO)]
theorem ahv (q:dW) (H:DV q):eF (awx q):=eB aN [] aN (hx:=(aD jW (aD oz (aD JH (aD qg (aD H.2.2.2.2.2.1 (aD DJ (aD qh aN))))))))
noncomputable def Na:Code:=(f239.body).getD .skip
noncomputable def lV:Code:=cA (cA (cB (cB (Na))))
def nR:dZ:=⟨[0,240000002],[],[],[],[],[]⟩
def am0:dZ:=⟨[1,2,3],[],[],[],[],[]⟩
def zC:SQ:=⟨cG,bx,dx⟩
def Bl:SQ:=⟨c9,bx,dx⟩
def Bv:SQ:=⟨c9,bx,[]⟩
def BF (q:dW) {e:Type} (m o:Int->Int->Int->Int->Int->Int->(List jc)->(List iQ)->Int->Int->Int->Option e) (y:Int->Int->Int->Int->Int->Int->Option e) (f g h i j l:Int) (p:List jc) (s:List iQ) (u v x:Int):Option e:=bz (JZ s u p v x) fun d=>cond d.2.1 (m f g h i j l d.1.2.2.1 d.1.1 d.1.2.1 d.1.2.2.2.1 d.1.2.2.2.2.1)<|o f g h i j l d.1.2.2.1 d.1.1 d.1.2.1 d.1.2.2.2.1 d.1.2.2.2.2.1
def AY (q:dW):Nat->Int->Int->Int->Int->Int->Int->(List jc)->(List iQ)->Int->Int->Int->Option (Bl.den⊕Bv.den)
 |0,_,_,_,_,_,_,_,_,_,_,_=>a7
 |n+1,d,e,f,g,h,i,j,l,m,o,p=>BF q (AY q n) (fun s u v x y z A B D E G=>a6 (.inl ((),((s,u,()),(v,x,()),(y,z,()),(),()),((),(),A,(B,D,E,G,()),())))) (fun I J K L M N=>a6 (.inr ((),((I,J,()),(K,L,()),(M,N,()),(),()),()))) d e f g h i j l m o p
def Zv (q:dW) (n:Nat) (v:zC.den):=br (AY q n) v
noncomputable def A8 (q:dW):dm:=fQ nR zC Bl Bv (.exit 0) (Zv q bG) 6
def sG:SQ:=⟨cG,bx,dy⟩
def wV:SQ:=⟨c9,bx,dy⟩
def xe:SQ:=⟨c9,bx,[]⟩
def xw (q:dW) {e:Type} (m o:Int->Int->Int->Int->Int->Int->(List jc)->(List iQ)->Int->Int->Int->Option e) (y:Int->Int->Int->Int->Int->Int->Option e) (f g h i j l:Int) (p:List jc) (s:List iQ) (u v x:Int):Option e:=bz (JZ s u p v x) fun d=>cond d.2.1 (m f g h i j l d.1.2.2.1 d.1.1 d.1.2.1 d.1.2.2.2.1 d.1.2.2.2.2.1)<|o f g h i j l d.1.2.2.1 d.1.1 d.1.2.1 d.1.2.2.2.1 d.1.2.2.2.2.1
def wI (q:dW):Nat->Int->Int->Int->Int->Int->Int->(List jc)->(List iQ)->Int->Int->Int->Option (wV.den⊕xe.den)
 |0,_,_,_,_,_,_,_,_,_,_,_=>a7
 |n+1,d,e,f,g,h,i,j,l,m,o,p=>xw q (wI q n) (fun s u v x y z A B D E G=>a6 (.inl ((),((s,u,()),(v,x,()),(y,z,()),(),()),((),(),A,(B,D,E,G,()),())))) (fun I J K L M N=>a6 (.inr ((),((I,J,()),(K,L,()),(M,N,()),(),()),()))) d e f g h i j l m o p
def Qq (q:dW) (n:Nat) (v:sG.den):=br (wI q n) v
noncomputable def wO (q:dW):dm:=fQ nR sG wV xe (.exit 0) (Qq q bG) 12
def sH:SQ:=⟨cG,bx,dz⟩
def wW:SQ:=⟨c9,bx,dz⟩
def xf:SQ:=⟨c9,bx,[]⟩
def xx (q:dW) {e:Type} (m o:Int->Int->Int->Int->Int->Int->(List jc)->(List iQ)->Int->Int->Int->Option e) (y:Int->Int->Int->Int->Int->Int->Option e) (f g h i j l:Int) (p:List jc) (s:List iQ) (u v x:Int):Option e:=bz (JZ s u p v x) fun d=>cond d.2.1 (m f g h i j l d.1.2.2.1 d.1.1 d.1.2.1 d.1.2.2.2.1 d.1.2.2.2.2.1)<|o f g h i j l d.1.2.2.1 d.1.1 d.1.2.1 d.1.2.2.2.1 d.1.2.2.2.2.1
def wJ (q:dW):Nat->Int->Int->Int->Int->Int->Int->(List jc)->(List iQ)->Int->Int->Int->Option (wW.den⊕xf.den)
 |0,_,_,_,_,_,_,_,_,_,_,_=>a7
 |n+1,d,e,f,g,h,i,j,l,m,o,p=>xx q (wJ q n) (fun s u v x y z A B D E G=>a6 (.inl ((),((s,u,()),(v,x,()),(y,z,()),(),()),((),(),A,(B,D,E,G,()),())))) (fun I J K L M N=>a6 (.inr ((),((I,J,()),(K,L,()),(M,N,()),(),()),()))) d e f g h i j l m o p
def Qr (q:dW) (n:Nat) (v:sH.den):=br (wJ q n) v
noncomputable def wP (q:dW):dm:=fQ nR sH wW xf (.exit 0) (Qr q bG) 18
def sJ:SQ:=⟨cG,bx,d5⟩
def wX:SQ:=⟨c9,bx,d5⟩
def xg:SQ:=⟨c9,bx,[]⟩
def xy (q:dW) {e:Type} (m o:Int->Int->Int->Int->Int->Int->(List jc)->(List iQ)->Int->Int->Int->Option e) (y:Int->Int->Int->Int->Int->Int->Option e) (f g h i j l:Int) (p:List jc) (s:List iQ) (u v x:Int):Option e:=bz (JZ s u p v x) fun d=>cond d.2.1 (m f g h i j l d.1.2.2.1 d.1.1 d.1.2.1 d.1.2.2.2.1 d.1.2.2.2.2.1)<|o f g h i j l d.1.2.2.1 d.1.1 d.1.2.1 d.1.2.2.2.1 d.1.2.2.2.2.1
def wK (q:dW):Nat->Int->Int->Int->Int->Int->Int->(List jc)->(List iQ)->Int->Int->Int->Option (wX.den⊕xg.den)
 |0,_,_,_,_,_,_,_,_,_,_,_=>a7
 |n+1,d,e,f,g,h,i,j,l,m,o,p=>xy q (wK q n) (fun s u v x y z A B D E G=>a6 (.inl ((),((s,u,()),(v,x,()),(y,z,()),(),()),((),(),A,(B,D,E,G,()),())))) (fun I J K L M N=>a6 (.inr ((),((I,J,()),(K,L,()),(M,N,()),(),()),()))) d e f g h i j l m o p
def Qs (q:dW) (n:Nat) (v:sJ.den):=br (wK q n) v
noncomputable def wQ (q:dW):dm:=fQ nR sJ wX xg (.exit 0) (Qs q bG) 24
def sK:SQ:=⟨cG,bx,d6⟩
def wY:SQ:=⟨c9,bx,d6⟩
def xh:SQ:=⟨c9,bx,[]⟩
def xA (q:dW) {e:Type} (m o:Int->Int->Int->Int->Int->Int->(List jc)->(List iQ)->Int->Int->Int->Option e) (y:Int->Int->Int->Int->Int->Int->Option e) (f g h i j l:Int) (p:List jc) (s:List iQ) (u v x:Int):Option e:=bz (JZ s u p v x) fun d=>cond d.2.1 (m f g h i j l d.1.2.2.1 d.1.1 d.1.2.1 d.1.2.2.2.1 d.1.2.2.2.2.1)<|o f g h i j l d.1.2.2.1 d.1.1 d.1.2.1 d.1.2.2.2.1 d.1.2.2.2.2.1
def wL (q:dW):Nat->Int->Int->Int->Int->Int->Int->(List jc)->(List iQ)->Int->Int->Int->Option (wY.den⊕xh.den)
 |0,_,_,_,_,_,_,_,_,_,_,_=>a7
 |n+1,d,e,f,g,h,i,j,l,m,o,p=>xA q (wL q n) (fun s u v x y z A B D E G=>a6 (.inl ((),((s,u,()),(v,x,()),(y,z,()),(),()),((),(),A,(B,D,E,G,()),())))) (fun I J K L M N=>a6 (.inr ((),((I,J,()),(K,L,()),(M,N,()),(),()),()))) d e f g h i j l m o p
def Qu (q:dW) (n:Nat) (v:sK.den):=br (wL q n) v
noncomputable def wR (q:dW):dm:=fQ nR sK wY xh (.exit 0) (Qu q bG) 30
def sN:SQ:=⟨cG,bx,d7⟩
def wZ:SQ:=⟨c9,bx,d7⟩
def xk:SQ:=⟨c9,bx,[]⟩
def xB (q:dW) {e:Type} (m o:Int->Int->Int->Int->Int->Int->(List jc)->(List iQ)->Int->Int->Int->Option e) (y:Int->Int->Int->Int->Int->Int->Option e) (f g h i j l:Int) (p:List jc) (s:List iQ) (u v x:Int):Option e:=bz (JZ s u p v x) fun d=>cond d.2.1 (m f g h i j l d.1.2.2.1 d.1.1 d.1.2.1 d.1.2.2.2.1 d.1.2.2.2.2.1)<|o f g h i j l d.1.2.2.1 d.1.1 d.1.2.1 d.1.2.2.2.1 d.1.2.2.2.2.1
def wM (q:dW):Nat->Int->Int->Int->Int->Int->Int->(List jc)->(List iQ)->Int->Int->Int->Option (wZ.den⊕xk.den)
 |0,_,_,_,_,_,_,_,_,_,_,_=>a7
 |n+1,d,e,f,g,h,i,j,l,m,o,p=>xB q (wM q n) (fun s u v x y z A B D E G=>a6 (.inl ((),((s,u,()),(v,x,()),(y,z,()),(),()),((),(),A,(B,D,E,G,()),())))) (fun I J K L M N=>a6 (.inr ((),((I,J,()),(K,L,()),(M,N,()),(),()),()))) d e f g h i j l m o p
def Qv (q:dW) (n:Nat) (v:sN.den):=br (wM q n) v
noncomputable def wS (q:dW):dm:=fQ nR sN wZ xk (.exit 0) (Qv q bG) 36
def aAu (q:dW) (i:List iQ) (j:Int) (l:List jc) (m o:Int):Option qF:=bz (cond (bJ 9 9) (cond ((((bJ 9 9)&&true)&&(((mg BX l l)&&(((mg tyD i i)&&((bJ j j)&&((bJ m m)&&((bJ o o)&&true))))&&true))&&true))&&true) (a6 ()) (a7)) (a7)) fun p=>bz (D9 i j l m o 0) fun d=>cond (bJ d.2.1 40) (cond (bJ 10 10) (cond (bJ d.1.2.1 d.1.2.1) (cond (bJ d.1.2.2.2.1 d.1.2.2.2.1) (cond (dN (bP d.1.2.2.1 [(10,(d.1.2.1,(0,(d.1.2.2.2.1,()))))]) 32) (cond (bJ 10 10) (cond (bJ d.1.2.1 d.1.2.1) (cond (bJ d.1.2.2.2.1 d.1.2.2.2.1) (cond ((bJ 10 10)&&((bJ d.1.2.1 d.1.2.1)&&((bJ 0 0)&&((bJ d.1.2.2.2.1 d.1.2.2.2.1)&&true)))) (bz (q.q234 d.1.1 (bZ .i64 d.1.2.1 1) (bP d.1.2.2.1 [(10,(d.1.2.1,(0,(d.1.2.2.2.1,()))))]) (bD d.1.2.2.1) (bZ .i64 d.1.2.2.2.2.1 1)) fun f=>bz (AY q bG (bD d.1.2.2.1) d.1.2.2.2.1 10 10 10 10 f.1.2.2.1 f.1.1 f.1.2.1 f.1.2.2.2.1 f.1.2.2.2.2.1) fun g=>dL g (fun e=>cond (fV e.2.2.2.2.1 e.2.1.1.1) (cond (lN (dh e.2.1.1.1) e.2.2.2.2.1) (a6 ((e.2.2.2.2.2.1.1,(e.2.2.2.2.2.1.2.1,((ig e.2.2.2.2.1 (dh e.2.1.1.1) ((dB e.2.2.2.2.1 (0,(0,(0,(0,())))) (dh e.2.1.1.1)).1,((dB e.2.2.2.2.1 (0,(0,(0,(0,())))) (dh e.2.1.1.1)).2.1,(e.2.2.2.2.2.1.2.1,((dB e.2.2.2.2.1 (0,(0,(0,(0,())))) (dh e.2.1.1.1)).2.2.2.1,()))))),(e.2.1.1.2.1,((ed .i64 e.2.2.2.2.2.1.2.2.2.1 1),()))))),())) a7) a7) (fun h=>a7)) a7) a7) a7) a7) a7) a7) a7) a7)<|cond (bJ d.2.1 105) (cond (bJ 11 11) (cond (bJ d.1.2.1 d.1.2.1) (cond (bJ d.1.2.2.2.1 d.1.2.2.2.1) (cond (dN (bP d.1.2.2.1 [(11,(d.1.2.1,(0,(d.1.2.2.2.1,()))))]) 32) (cond (bJ 11 11) (cond (bJ d.1.2.1 d.1.2.1) (cond (bJ d.1.2.2.2.1 d.1.2.2.2.1) (cond ((bJ 11 11)&&((bJ d.1.2.1 d.1.2.1)&&((bJ 0 0)&&((bJ d.1.2.2.2.1 d.1.2.2.2.1)&&true)))) (bz (q.q235 d.1.1 (bZ .i64 d.1.2.1 1) (bP d.1.2.2.1 [(11,(d.1.2.1,(0,(d.1.2.2.2.1,()))))]) (bD d.1.2.2.1) (bZ .i64 d.1.2.2.2.2.1 1)) fun f=>bz (wI q bG (bD d.1.2.2.1) d.1.2.2.2.1 11 11 11 11 f.1.2.2.1 f.1.1 f.1.2.1 f.1.2.2.2.1 f.1.2.2.2.2.1) fun g=>dL g (fun e=>cond (fV e.2.2.2.2.1 e.2.1.1.1) (cond (lN (dh e.2.1.1.1) e.2.2.2.2.1) (a6 ((e.2.2.2.2.2.1.1,(e.2.2.2.2.2.1.2.1,((ig e.2.2.2.2.1 (dh e.2.1.1.1) ((dB e.2.2.2.2.1 (0,(0,(0,(0,())))) (dh e.2.1.1.1)).1,((dB e.2.2.2.2.1 (0,(0,(0,(0,())))) (dh e.2.1.1.1)).2.1,(e.2.2.2.2.2.1.2.1,((dB e.2.2.2.2.1 (0,(0,(0,(0,())))) (dh e.2.1.1.1)).2.2.2.1,()))))),(e.2.1.1.2.1,((ed .i64 e.2.2.2.2.2.1.2.2.2.1 1),()))))),())) a7) a7) (fun h=>a7)) a7) a7) a7) a7) a7) a7) a7) a7)<|cond (bJ d.2.1 119) (cond (bJ 12 12) (cond (bJ d.1.2.1 d.1.2.1) (cond (bJ d.1.2.2.2.1 d.1.2.2.2.1) (cond (dN (bP d.1.2.2.1 [(12,(d.1.2.1,(0,(d.1.2.2.2.1,()))))]) 32) (cond (bJ 12 12) (cond (bJ d.1.2.1 d.1.2.1) (cond (bJ d.1.2.2.2.1 d.1.2.2.2.1) (cond ((bJ 12 12)&&((bJ d.1.2.1 d.1.2.1)&&((bJ 0 0)&&((bJ d.1.2.2.2.1 d.1.2.2.2.1)&&true)))) (bz (q.q236 d.1.1 (bZ .i64 d.1.2.1 1) (bP d.1.2.2.1 [(12,(d.1.2.1,(0,(d.1.2.2.2.1,()))))]) (bD d.1.2.2.1) (bZ .i64 d.1.2.2.2.2.1 1)) fun f=>bz (wJ q bG (bD d.1.2.2.1) d.1.2.2.2.1 12 12 12 12 f.1.2.2.1 f.1.1 f.1.2.1 f.1.2.2.2.1 f.1.2.2.2.2.1) fun g=>dL g (fun e=>cond (fV e.2.2.2.2.1 e.2.1.1.1) (cond (lN (dh e.2.1.1.1) e.2.2.2.2.1) (a6 ((e.2.2.2.2.2.1.1,(e.2.2.2.2.2.1.2.1,((ig e.2.2.2.2.1 (dh e.2.1.1.1) ((dB e.2.2.2.2.1 (0,(0,(0,(0,())))) (dh e.2.1.1.1)).1,((dB e.2.2.2.2.1 (0,(0,(0,(0,())))) (dh e.2.1.1.1)).2.1,(e.2.2.2.2.2.1.2.1,((dB e.2.2.2.2.1 (0,(0,(0,(0,())))) (dh e.2.1.1.1)).2.2.2.1,()))))),(e.2.1.1.2.1,((ed .i64 e.2.2.2.2.2.1.2.2.2.1 1),()))))),())) a7) a7) (fun h=>a7)) a7) a7) a7) a7) a7) a7) a7) a7)<|cond (bJ d.2.1 114) (cond (bJ 13 13) (cond (bJ d.1.2.1 d.1.2.1) (cond (bJ d.1.2.2.2.1 d.1.2.2.2.1) (cond (dN (bP d.1.2.2.1 [(13,(d.1.2.1,(0,(d.1.2.2.2.1,()))))]) 32) (cond (bJ 13 13) (cond (bJ d.1.2.1 d.1.2.1) (cond (bJ d.1.2.2.2.1 d.1.2.2.2.1) (cond ((bJ 13 13)&&((bJ d.1.2.1 d.1.2.1)&&((bJ 0 0)&&((bJ d.1.2.2.2.1 d.1.2.2.2.1)&&true)))) (bz (q.q237 d.1.1 (bZ .i64 d.1.2.1 1) (bP d.1.2.2.1 [(13,(d.1.2.1,(0,(d.1.2.2.2.1,()))))]) (bD d.1.2.2.1) (bZ .i64 d.1.2.2.2.2.1 1)) fun f=>bz (wK q bG (bD d.1.2.2.1) d.1.2.2.2.1 13 13 13 13 f.1.2.2.1 f.1.1 f.1.2.1 f.1.2.2.2.1 f.1.2.2.2.2.1) fun g=>dL g (fun e=>cond (fV e.2.2.2.2.1 e.2.1.1.1) (cond (lN (dh e.2.1.1.1) e.2.2.2.2.1) (a6 ((e.2.2.2.2.2.1.1,(e.2.2.2.2.2.1.2.1,((ig e.2.2.2.2.1 (dh e.2.1.1.1) ((dB e.2.2.2.2.1 (0,(0,(0,(0,())))) (dh e.2.1.1.1)).1,((dB e.2.2.2.2.1 (0,(0,(0,(0,())))) (dh e.2.1.1.1)).2.1,(e.2.2.2.2.2.1.2.1,((dB e.2.2.2.2.1 (0,(0,(0,(0,())))) (dh e.2.1.1.1)).2.2.2.1,()))))),(e.2.1.1.2.1,((ed .i64 e.2.2.2.2.2.1.2.2.2.1 1),()))))),())) a7) a7) (fun h=>a7)) a7) a7) a7) a7) a7) a7) a7) a7)<|cond (bJ d.2.1 99) (cond (bJ 14 14) (cond (bJ d.1.2.1 d.1.2.1) (cond (bJ d.1.2.2.2.1 d.1.2.2.2.1) (cond (dN (bP d.1.2.2.1 [(14,(d.1.2.1,(0,(d.1.2.2.2.1,()))))]) 32) (cond (bJ 14 14) (cond (bJ d.1.2.1 d.1.2.1) (cond (bJ d.1.2.2.2.1 d.1.2.2.2.1) (cond ((bJ 14 14)&&((bJ d.1.2.1 d.1.2.1)&&((bJ 0 0)&&((bJ d.1.2.2.2.1 d.1.2.2.2.1)&&true)))) (bz (q.q238 d.1.1 (bZ .i64 d.1.2.1 1) (bP d.1.2.2.1 [(14,(d.1.2.1,(0,(d.1.2.2.2.1,()))))]) (bD d.1.2.2.1) (bZ .i64 d.1.2.2.2.2.1 1)) fun f=>bz (wL q bG (bD d.1.2.2.1) d.1.2.2.2.1 14 14 14 14 f.1.2.2.1 f.1.1 f.1.2.1 f.1.2.2.2.1 f.1.2.2.2.2.1) fun g=>dL g (fun e=>cond (fV e.2.2.2.2.1 e.2.1.1.1) (cond (lN (dh e.2.1.1.1) e.2.2.2.2.1) (a6 ((e.2.2.2.2.2.1.1,(e.2.2.2.2.2.1.2.1,((ig e.2.2.2.2.1 (dh e.2.1.1.1) ((dB e.2.2.2.2.1 (0,(0,(0,(0,())))) (dh e.2.1.1.1)).1,((dB e.2.2.2.2.1 (0,(0,(0,(0,())))) (dh e.2.1.1.1)).2.1,(e.2.2.2.2.2.1.2.1,((dB e.2.2.2.2.1 (0,(0,(0,(0,())))) (dh e.2.1.1.1)).2.2.2.1,()))))),(e.2.1.1.2.1,((ed .i64 e.2.2.2.2.2.1.2.2.2.1 1),()))))),())) a7) a7) (fun h=>a7)) a7) a7) a7) a7) a7) a7) a7) a7)<|cond (bJ 9 9) (cond (bJ d.1.2.1 d.1.2.1) (cond (bJ d.1.2.2.2.1 d.1.2.2.2.1) (cond (dN (bP d.1.2.2.1 [(9,(d.1.2.1,(0,(d.1.2.2.2.1,()))))]) 32) (cond (bJ 9 9) (cond (bJ d.1.2.1 d.1.2.1) (cond (bJ d.1.2.2.2.1 d.1.2.2.2.1) (cond ((bJ 9 9)&&((bJ d.1.2.1 d.1.2.1)&&((bJ 0 0)&&((bJ d.1.2.2.2.1 d.1.2.2.2.1)&&true)))) (bz (q.q233 d.1.1 (bZ .i64 d.1.2.1 1) (bP d.1.2.2.1 [(9,(d.1.2.1,(0,(d.1.2.2.2.1,()))))]) (bD d.1.2.2.1) (bZ .i64 d.1.2.2.2.2.1 1)) fun f=>bz (wM q bG (bD d.1.2.2.1) d.1.2.2.2.1 9 9 9 9 f.1.2.2.1 f.1.1 f.1.2.1 f.1.2.2.2.1 f.1.2.2.2.2.1) fun g=>dL g (fun e=>cond (fV e.2.2.2.2.1 e.2.1.1.1) (cond (lN (dh e.2.1.1.1) e.2.2.2.2.1) (a6 ((e.2.2.2.2.2.1.1,(e.2.2.2.2.2.1.2.1,((ig e.2.2.2.2.1 (dh e.2.1.1.1) ((dB e.2.2.2.2.1 (0,(0,(0,(0,())))) (dh e.2.1.1.1)).1,((dB e.2.2.2.2.1 (0,(0,(0,(0,())))) (dh e.2.1.1.1)).2.1,(e.2.2.2.2.2.1.2.1,((dB e.2.2.2.2.1 (0,(0,(0,(0,())))) (dh e.2.1.1.1)).2.2.2.1,()))))),(e.2.1.1.2.1,((ed .i64 e.2.2.2.2.2.1.2.2.2.1 1),()))))),())) a7) a7) (fun h=>a7)) a7) a7) a7) a7) a7) a7) a7) a7
noncomputable def yS (q:dW):Env:=gB prog tt [] [(239,2,nR),(226,600013,am0),(228,600001,J9),(74,600003,jr),(239,600001,mr)] [(239,2,jV (A8 q) (jV (wO q) (jV (wP q) (jV (wQ q) (jV (wR q) ((wS q)))))))] [] [(151,adC),(233,agN q),(234,agO q),(235,agP q),(236,agQ q),(237,agR q),(238,agS q),(240,adE)]
def KQ (q:dW) {d:Type} (a:zC.den->Option d) (b:Bl.den->Option d) (c:Bv.den->Option d) (v:zC.den):Option d:=br (BF q (bp a) (bp b) (bq c)) v
theorem ZK (q:dW):dJ (yS q) 239 lV (A8 q):=nU (KQ q) (h2:=by intros;simp only[KQ,bp,bq,br,BF,bV,bW,bu,bT,bY])
def Et (q:dW) {d:Type} (a:sG.den->Option d) (b:wV.den->Option d) (c:xe.den->Option d) (v:sG.den):Option d:=br (xw q (bp a) (bp b) (bq c)) v
theorem Qz (q:dW):dJ (yS q) 239 lV (wO q):=nU (Et q) (h2:=by intros;simp only[Et,bp,bq,br,xw,bV,bW,bu,bT,bY])
def Eu (q:dW) {d:Type} (a:sH.den->Option d) (b:wW.den->Option d) (c:xf.den->Option d) (v:sH.den):Option d:=br (xx q (bp a) (bp b) (bq c)) v
theorem QA (q:dW):dJ (yS q) 239 lV (wP q):=nU (Eu q) (h2:=by intros;simp only[Eu,bp,bq,br,xx,bV,bW,bu,bT,bY])
def Ew (q:dW) {d:Type} (a:sJ.den->Option d) (b:wX.den->Option d) (c:xg.den->Option d) (v:sJ.den):Option d:=br (xy q (bp a) (bp b) (bq c)) v
theorem QB (q:dW):dJ (yS q) 239 lV (wQ q):=nU (Ew q) (h2:=by intros;simp only[Ew,bp,bq,br,xy,bV,bW,bu,bT,bY])
def Ey (q:dW) {d:Type} (a:sK.den->Option d) (b:wY.den->Option d) (c:xh.den->Option d) (v:sK.den):Option d:=br (xA q (bp a) (bp b) (bq c)) v
theorem QC (q:dW):dJ (yS q) 239 lV (wR q):=nU (Ey q) (h2:=by intros;simp only[Ey,bp,bq,br,xA,bV,bW,bu,bT,bY])
def Ez (q:dW) {d:Type} (a:sN.den->Option d) (b:wZ.den->Option d) (c:xk.den->Option d) (v:sN.den):Option d:=br (xB q (bp a) (bp b) (bq c)) v
theorem QD (q:dW):dJ (yS q) 239 lV (wS q):=nU (Ez q) (h2:=by intros;simp only[Ez,bp,bq,br,xB,bV,bW,bu,bT,bY])
theorem ab3 (q:dW):dI (yS q) 239 Na:=nG [lV] (aD (fun L h=>by rw[show((yS q)).lp 239 (dn lV)=a6 (jV (A8 q) (jV (wO q) (jV (wP q) (jV (wQ q) (jV (wR q) ((wS q))))))) by kernel_rfl]at h;cases h;exact pK (ZK q) (pK (Qz q) (pK (QA q) (pK (QB q) (pK (QC q) ((QD q))))))) aN)
theorem ahu (q:dW) (H:DV q):eF (yS q):=eB aN [239] (aD ⟨f239,Na,by kernel_rfl,by kernel_rfl,ab3 q⟩ aN) (hx:=(aD qf (aD H.2.2.2.2.2.2.2.1 (aD H.2.2.2.2.2.2.2.2.1 (aD H.2.2.2.2.2.2.2.2.2.1 (aD H.2.2.2.2.2.2.2.2.2.2.1 (aD H.2.2.2.2.2.2.2.2.2.2.2.1 (aD H.2.2.2.2.2.2.2.2.2.2.2.2.1 (aD TB aN)))))))))
def aAC (q:dW) (g:List iQ) (h:Int) (i:List jc) (j l:Int):Option qF:=bz (uC g h i j l) fun f=>bz (NP f.1.1 f.1.2.1 f.1.2.2.1 f.1.2.2.2.1 f.1.2.2.2.2.1) fun d=>cond d.2.1 (cond (bJ 2 2) (cond (bJ d.1.2.1 d.1.2.1) (cond (bJ d.1.2.2.2.1 d.1.2.2.2.1) (cond (dN (bP d.1.2.2.1 [(2,(d.1.2.1,(0,(d.1.2.2.2.1,()))))]) 32) (cond (bJ 2 2) (cond (bJ d.1.2.1 d.1.2.1) (cond (bJ d.1.2.2.2.1 d.1.2.2.2.1) (cond ((bJ 2 2)&&((bJ d.1.2.1 d.1.2.1)&&((bJ 0 0)&&((bJ d.1.2.2.2.1 d.1.2.2.2.1)&&true)))) (bz (q.q110 d.1.1 d.1.2.1 (bP d.1.2.2.1 [(2,(d.1.2.1,(0,(d.1.2.2.2.1,()))))]) (bD d.1.2.2.1) d.1.2.2.2.2.1) fun e=>cond (fV e.1.2.2.1 (bD d.1.2.2.1)) (cond (lN (dh (bD d.1.2.2.1)) e.1.2.2.1) (a6 ((e.1.1,(e.1.2.1,((ig e.1.2.2.1 (dh (bD d.1.2.2.1)) ((dB e.1.2.2.1 (0,(0,(0,(0,())))) (dh (bD d.1.2.2.1))).1,((dB e.1.2.2.1 (0,(0,(0,(0,())))) (dh (bD d.1.2.2.1))).2.1,(e.1.2.1,((dB e.1.2.2.1 (0,(0,(0,(0,())))) (dh (bD d.1.2.2.1))).2.2.2.1,()))))),(d.1.2.2.2.1,(e.1.2.2.2.2.1,()))))),())) a7) a7) a7) a7) a7) a7) a7) a7) a7) a7)<|bz (Eb d.1.1 d.1.2.1 d.1.2.2.1 d.1.2.2.2.1 d.1.2.2.2.2.1) fun e=>a6 ((e.1.1,(e.1.2.1,(e.1.2.2.1,(e.1.2.2.2.1,(e.1.2.2.2.2.1,()))))),())
noncomputable def awD (q:dW):Env:=gB prog tt [] [(245,600002,su),(74,600003,jr)] [] [] [(109,JC),(110,Ya q),(154,zX),(214,JI)]
theorem ahD (q:dW) (H:DV q):eF (awD q):=eB aN [] aN (hx:=(aD yE (aD H.1 (aD oz (aD qg aN)))))
def aAw (q:dW) (f:List iQ) (g:Int) (h:List jc) (i j:Int):Option qF:=bz (q.q245 f g h i j) fun d=>bz (xQ d.1.1 d.1.2.1 d.1.2.2.1 d.1.2.2.2.1 d.1.2.2.2.2.1 [125]) fun e=>a6 ((e.1.1,(e.1.2.1,(e.1.2.2.1,(e.1.2.2.2.1,(e.1.2.2.2.2.1,()))))),())
noncomputable def awy (q:dW):Env:=gB prog tt [] [] [] [] [(242,BO),(245,DL q)]
theorem ahx (q:dW) (H:DV q):eF (awy q):=eB aN [] aN (hx:=(aD qh (aD H.2.2.2.2.2.2.1 aN)))
def aAx (q:dW) (f:List iQ) (g:Int) (h:List jc) (i j:Int):Option qF:=bz (q.q245 f g h i j) fun d=>bz (xQ d.1.1 d.1.2.1 d.1.2.2.1 d.1.2.2.2.1 d.1.2.2.2.2.1 [41]) fun e=>a6 ((e.1.1,(e.1.2.1,(e.1.2.2.1,(e.1.2.2.2.1,(e.1.2.2.2.2.1,()))))),())
noncomputable def awz (q:dW):Env:=gB prog tt [] [] [] [] [(242,BO),(245,DL q)]
theorem ahy (q:dW) (H:DV q):eF (awz q):=eB aN [] aN (hx:=(aD qh (aD H.2.2.2.2.2.2.1 aN)))
noncomputable def awo:Code:=(f235.body).getD .skip
noncomputable def akb:Code:=cA (cA (cA (cB (cB (cB (awo))))))
def amS:dZ:=⟨[0,100003],[],[0],[],[],[]⟩
def VL:SQ:=⟨us bL 21,[bL],cW⟩
def Wp:SQ:=⟨us bL 21,[bL],cW⟩
def WZ:SQ:=⟨us [] 22,[bL],[]⟩
def XH (q:dW) {h:Type} (i j:(List iQ)->Int->Int->Int->(List jc)->Option h) (u:Option h) (l:List iQ) (m o p:Int) (s:List jc):Option h:=bz (nz l m s o p [101]) fun d=>cond d.2.1 (bz (q.q245 d.1.1 d.1.2.1 d.1.2.2.1 d.1.2.2.2.1 d.1.2.2.2.2.1) fun e=>bz (xQ e.1.1 e.1.2.1 e.1.2.2.1 e.1.2.2.2.1 e.1.2.2.2.2.1 [116]) fun f=>bz (q.q245 f.1.1 f.1.2.1 f.1.2.2.1 f.1.2.2.2.1 f.1.2.2.2.2.1) fun g=>i g.1.1 g.1.2.1 g.1.2.2.2.1 g.1.2.2.2.2.1 g.1.2.2.1)<|j d.1.1 d.1.2.1 d.1.2.2.2.1 d.1.2.2.2.2.1 d.1.2.2.1
def U2 (q:dW):Nat->(List iQ)->Int->Int->Int->(List jc)->Option (Wp.den⊕WZ.den)
 |0,_,_,_,_,_=>a7
 |n+1,d,e,f,g,h=>XH q (U2 q n) (fun i j l m o=>a6 (.inl ((),((),()),((i,j,l,m,()),o,())))) (a6 (.inr ((),((),()),()))) d e f g h
def asw (q:dW) (n:Nat) (v:VL.den):=bo (U2 q n) v
noncomputable def afd (q:dW):dm:=fQ amS VL Wp WZ (.exit 0) (asw q bG) 6
def aAy (q:dW) (l:List iQ) (m:Int) (o:List jc) (p s:Int):Option qF:=bz (q.q245 l m o p s) fun f=>bz (xQ f.1.1 f.1.2.1 f.1.2.2.1 f.1.2.2.2.1 f.1.2.2.2.2.1 [116]) fun g=>bz (q.q245 g.1.1 g.1.2.1 g.1.2.2.1 g.1.2.2.2.1 g.1.2.2.2.2.1) fun h=>bz (U2 q bG h.1.1 h.1.2.1 h.1.2.2.2.1 h.1.2.2.2.2.1 h.1.2.2.1) fun u=>dL u (fun i=>bz (nz i.2.2.1.1 i.2.2.1.2.1 i.2.2.2.1 i.2.2.1.2.2.1 i.2.2.1.2.2.2.1 [108]) fun d=>cond d.2.1 (bz (q.q245 d.1.1 d.1.2.1 d.1.2.2.1 d.1.2.2.2.1 d.1.2.2.2.2.1) fun e=>bz (xQ e.1.1 e.1.2.1 e.1.2.2.1 e.1.2.2.2.1 e.1.2.2.2.2.1 [102]) fun j=>a6 ((j.1.1,(j.1.2.1,(j.1.2.2.1,(j.1.2.2.2.1,(j.1.2.2.2.2.1,()))))),()))<|bz (xQ d.1.1 d.1.2.1 d.1.2.2.1 d.1.2.2.2.1 d.1.2.2.2.2.1 [102]) fun e=>a6 ((e.1.1,(e.1.2.1,(e.1.2.2.1,(e.1.2.2.2.1,(e.1.2.2.2.2.1,()))))),())) (fun v=>a7)
noncomputable def abe (q:dW):Env:=gB prog tt [] [(235,3,amS)] [(235,3,afd q)] [] [(108,uS),(242,BO),(245,DL q)]
def agt (q:dW) {d:Type} (a:VL.den->Option d) (b:Wp.den->Option d) (c:WZ.den->Option d) (v:VL.den):Option d:=bo (XH q (bm a) (bm b) (c ((),((),()),()))) v
theorem as9 (q:dW):dJ (abe q) 235 akb (afd q):=nU (agt q) (h2:=by intros;simp only[agt,bm,bo,XH,bV,bW,bu,bT,bY])
theorem axr (q:dW):dI (abe q) 235 awo:=nG [akb] (aD (fM (as9 q)) aN)
theorem ahz (q:dW) (H:DV q):eF (abe q):=eB aN [235] (aD ⟨f235,awo,by kernel_rfl,by kernel_rfl,axr q⟩ aN) (hx:=(aD jW (aD qh (aD H.2.2.2.2.2.2.1 aN))))
def aAz (q:dW) (f:List iQ) (g:Int) (h:List jc) (i j:Int):Option qF:=bz (q.q245 f g h i j) fun d=>bz (q.q246 d.1.1 d.1.2.1 d.1.2.2.1 d.1.2.2.2.1 d.1.2.2.2.2.1) fun e=>a6 ((e.1.1,(e.1.2.1,(e.1.2.2.1,(e.1.2.2.2.1,(e.1.2.2.2.2.1,()))))),())
noncomputable def awC (q:dW):Env:=gB prog tt [] [] [] [] [(245,DL q),(246,Yg q)]
theorem ahA (q:dW) (H:DV q):eF (awC q):=eB aN [] aN (hx:=(aD H.2.2.2.2.2.2.1 (aD H.2.2.2.2.2.2.2.2.2.2.2.2.2.2 aN)))
noncomputable def awp:Code:=(f237.body).getD .skip
noncomputable def akc:Code:=cA (cA (cA (cA (cB (cB (cB (cB (cA (cB (awp))))))))))
def amT:dZ:=⟨[0,100007],[],[0],[],[],[]⟩
def VM:SQ:=⟨us bL 47,[bL],cW⟩
def Wq:SQ:=⟨us bL 47,[bL],cW⟩
def W9:SQ:=⟨us [] 48,[bL],[]⟩
def XI (q:dW) {f:Type} (g h:(List iQ)->Int->Int->Int->(List jc)->Option f) (p:Option f) (i:List iQ) (j l m:Int) (o:List jc):Option f:=bz (Rz i j o l m) fun d=>cond d.2.1 (bz (GK d.1.1 d.1.2.1 d.1.2.2.1 d.1.2.2.2.1 d.1.2.2.2.2.1 7) fun e=>g e.1.1 e.1.2.1 e.1.2.2.2.1 e.1.2.2.2.2.1 e.1.2.2.1)<|h d.1.1 d.1.2.1 d.1.2.2.2.1 d.1.2.2.2.2.1 d.1.2.2.1
def U3 (q:dW):Nat->(List iQ)->Int->Int->Int->(List jc)->Option (Wq.den⊕W9.den)
 |0,_,_,_,_,_=>a7
 |n+1,d,e,f,g,h=>XI q (U3 q n) (fun i j l m o=>a6 (.inl ((),((),()),((i,j,l,m,()),o,())))) (a6 (.inr ((),((),()),()))) d e f g h
def asx (q:dW) (n:Nat) (v:VM.den):=bo (U3 q n) v
noncomputable def afe (q:dW):dm:=fQ amT VM Wq W9 (.exit 0) (asx q bG) 6
def Lj (q:dW) (d:(taB×nH)):Option qF:=bz (q.q246 d.1.1 d.1.2.1 d.1.2.2.1 d.1.2.2.2.1 d.1.2.2.2.2.1) fun e=>a6 ((e.1.1,(e.1.2.1,(e.1.2.2.1,(e.1.2.2.2.1,(e.1.2.2.2.2.1,()))))),())
def Uu (i:qF) (q:dW):Option qF:=bz (nz i.1.1 i.1.2.1 i.1.2.2.1 i.1.2.2.2.1 i.1.2.2.2.2.1 [59]) fun d=>cond d.2.1 (bz (uC d.1.1 d.1.2.1 d.1.2.2.1 d.1.2.2.2.1 d.1.2.2.2.2.1) fun f=>Lj q f)<|bz (uC d.1.1 d.1.2.1 d.1.2.2.1 d.1.2.2.2.1 d.1.2.2.2.2.1) fun f=>bz (nz f.1.1 f.1.2.1 f.1.2.2.1 f.1.2.2.2.1 f.1.2.2.2.2.1 [107]) fun g=>cond g.2.1 (bz (U3 q bG g.1.1 g.1.2.1 g.1.2.2.2.1 g.1.2.2.2.2.1 g.1.2.2.1) fun o=>dL o (fun j=>bz (nz j.2.2.1.1 j.2.2.1.2.1 j.2.2.2.1 j.2.2.1.2.2.1 j.2.2.1.2.2.2.1 [59]) fun h=>bz (uC h.1.1 h.1.2.1 h.1.2.2.1 h.1.2.2.2.1 h.1.2.2.2.2.1) fun e=>cond (!e.2.1) (cond (!h.2.1) (bz (Eb e.1.1 e.1.2.1 e.1.2.2.1 e.1.2.2.2.1 e.1.2.2.2.2.1) fun l=>bz (q.q246 l.1.1 l.1.2.1 l.1.2.2.1 l.1.2.2.2.1 l.1.2.2.2.2.1) fun m=>a6 ((m.1.1,(m.1.2.1,(m.1.2.2.1,(m.1.2.2.2.1,(m.1.2.2.2.2.1,()))))),()))<|Lj q e)<|Lj q e) (fun b7=>a7))<|Lj q g
def aAA (q:dW) (g:List iQ) (h:Int) (i:List jc) (j l:Int):Option qF:=bz (Rz g h i j l) fun d=>cond d.2.1 (cond (fV d.1.1 d.1.2.1) (bz (al5 (gu d.1.1 (0,([],(0,(0,())))) d.1.2.1).2.1) fun e=>cond e.1 (bz (GK d.1.1 d.1.2.1 d.1.2.2.1 d.1.2.2.2.1 d.1.2.2.2.2.1 7) fun f=>Uu f q)<|bz (Eb d.1.1 d.1.2.1 d.1.2.2.1 d.1.2.2.2.1 d.1.2.2.2.2.1) fun f=>Uu f q) a7)<|bz (Eb d.1.1 d.1.2.1 d.1.2.2.1 d.1.2.2.2.1 d.1.2.2.2.2.1) fun e=>Uu e q
noncomputable def abf (q:dW):Env:=gB prog tt [(53,avL)] [(237,7,amT)] [(237,7,afe q)] [] [(108,uS),(111,Yb),(154,zX),(214,JI),(243,Yf),(246,Yg q)]
def agu (q:dW) {d:Type} (a:VM.den->Option d) (b:Wq.den->Option d) (c:W9.den->Option d) (v:VM.den):Option d:=bo (XI q (bm a) (bm b) (c ((),((),()),()))) v
theorem ata (q:dW):dJ (abf q) 237 akc (afe q):=nU (agu q) (h2:=by intros;simp only[agu,bm,bo,XI,bV,bW,bu,bT,bY])
theorem axs (q:dW):dI (abf q) 237 awp:=nG [akc] (aD (fM (ata q)) aN)
theorem ahB (q:dW) (H:DV q):eF (abf q):=eB (aD PT aN) [237] (aD ⟨f237,awp,by kernel_rfl,by kernel_rfl,axs q⟩ aN) (hx:=(aD jW (aD DI (aD oz (aD qg (aD DK (aD H.2.2.2.2.2.2.2.2.2.2.2.2.2.2 aN)))))))
noncomputable def awq:Code:=(f238.body).getD .skip
noncomputable def akd:Code:=cA (cA (cA (cB (cB (cB (cB (cB (cA (awq)))))))))
def amU:dZ:=⟨[0,100004],[],[0],[],[],[]⟩
def VN:SQ:=⟨us bL 31,[bL],cW⟩
def Ws:SQ:=⟨us bL 31,[bL],cW⟩
def Xa:SQ:=⟨us [] 32,[bL],[]⟩
def XJ (q:dW) {l:Type} (m j:(List iQ)->Int->Int->Int->(List jc)->Option l) (x:Option l) (o:List iQ) (p s u:Int) (v:List jc):Option l:=bz (aem o p v s u [40]) fun e=>cond e.2.1 (cond (bJ 15 15) (cond (bJ e.1.2.1 e.1.2.1) (cond (bJ e.1.2.2.2.1 e.1.2.2.2.1) (cond (dN (bP e.1.2.2.1 [(15,(e.1.2.1,(0,(e.1.2.2.2.1,()))))]) 32) (cond (bJ 15 15) (cond (bJ e.1.2.1 e.1.2.1) (cond (bJ e.1.2.2.2.1 e.1.2.2.2.1) (cond ((bJ 15 15)&&((bJ e.1.2.1 e.1.2.1)&&((bJ 0 0)&&((bJ e.1.2.2.2.1 e.1.2.2.2.1)&&true)))) (bz (q.q247 e.1.1 e.1.2.1 (bP e.1.2.2.1 [(15,(e.1.2.1,(0,(e.1.2.2.2.1,()))))]) (bD e.1.2.2.1) e.1.2.2.2.2.1) fun f=>cond (fV f.1.2.2.1 (bD e.1.2.2.1)) (cond (lN (dh (bD e.1.2.2.1)) f.1.2.2.1) (bz (nz f.1.1 f.1.2.1 (ig f.1.2.2.1 (dh (bD e.1.2.2.1)) ((dB f.1.2.2.1 (0,(0,(0,(0,())))) (dh (bD e.1.2.2.1))).1,((dB f.1.2.2.1 (0,(0,(0,(0,())))) (dh (bD e.1.2.2.1))).2.1,(f.1.2.1,((dB f.1.2.2.1 (0,(0,(0,(0,())))) (dh (bD e.1.2.2.1))).2.2.2.1,()))))) e.1.2.2.2.1 f.1.2.2.2.2.1 [121]) fun d=>cond (!d.2.1) (j d.1.1 d.1.2.1 d.1.2.2.2.1 d.1.2.2.2.2.1 d.1.2.2.1)<|bz (uC d.1.1 d.1.2.1 d.1.2.2.1 d.1.2.2.2.1 d.1.2.2.2.2.1) fun g=>m g.1.1 g.1.2.1 g.1.2.2.2.1 g.1.2.2.2.2.1 g.1.2.2.1) a7) a7) a7) a7) a7) a7) a7) a7) a7) a7)<|bz (Rz e.1.1 e.1.2.1 e.1.2.2.1 e.1.2.2.2.1 e.1.2.2.2.2.1) fun f=>cond f.2.1 (bz (D9 f.1.1 f.1.2.1 f.1.2.2.1 f.1.2.2.2.1 f.1.2.2.2.2.1 0) fun d=>cond (!(bJ d.2.1 122)) (cond (bJ 15 15) (cond (bJ d.1.2.1 d.1.2.1) (cond (bJ d.1.2.2.2.1 d.1.2.2.2.1) (cond (dN (bP d.1.2.2.1 [(15,(d.1.2.1,(0,(d.1.2.2.2.1,()))))]) 32) (cond (bJ 15 15) (cond (bJ d.1.2.1 d.1.2.1) (cond (bJ d.1.2.2.2.1 d.1.2.2.2.1) (cond ((bJ 15 15)&&((bJ d.1.2.1 d.1.2.1)&&((bJ 0 0)&&((bJ d.1.2.2.2.1 d.1.2.2.2.1)&&true)))) (bz (q.q247 d.1.1 d.1.2.1 (bP d.1.2.2.1 [(15,(d.1.2.1,(0,(d.1.2.2.2.1,()))))]) (bD d.1.2.2.1) d.1.2.2.2.2.1) fun g=>cond (fV g.1.2.2.1 (bD d.1.2.2.1)) (cond (lN (dh (bD d.1.2.2.1)) g.1.2.2.1) (bz (nz g.1.1 g.1.2.1 (ig g.1.2.2.1 (dh (bD d.1.2.2.1)) ((dB g.1.2.2.1 (0,(0,(0,(0,())))) (dh (bD d.1.2.2.1))).1,((dB g.1.2.2.1 (0,(0,(0,(0,())))) (dh (bD d.1.2.2.1))).2.1,(g.1.2.1,((dB g.1.2.2.1 (0,(0,(0,(0,())))) (dh (bD d.1.2.2.1))).2.2.2.1,()))))) d.1.2.2.2.1 g.1.2.2.2.2.1 [121]) fun h=>cond (!h.2.1) (j h.1.1 h.1.2.1 h.1.2.2.2.1 h.1.2.2.2.2.1 h.1.2.2.1)<|bz (uC h.1.1 h.1.2.1 h.1.2.2.1 h.1.2.2.2.1 h.1.2.2.2.2.1) fun i=>m i.1.1 i.1.2.1 i.1.2.2.2.1 i.1.2.2.2.2.1 i.1.2.2.1) a7) a7) a7) a7) a7) a7) a7) a7) a7) a7)<|j d.1.1 d.1.2.1 d.1.2.2.2.1 d.1.2.2.2.2.1 d.1.2.2.1)<|j f.1.1 f.1.2.1 f.1.2.2.2.1 f.1.2.2.2.2.1 f.1.2.2.1
def U4 (q:dW):Nat->(List iQ)->Int->Int->Int->(List jc)->Option (Ws.den⊕Xa.den)
 |0,_,_,_,_,_=>a7
 |n+1,d,e,f,g,h=>XJ q (U4 q n) (fun i j l m o=>a6 (.inl ((),((),()),((i,j,l,m,()),o,())))) (a6 (.inr ((),((),()),()))) d e f g h
def asy (q:dW) (n:Nat) (v:VN.den):=bo (U4 q n) v
noncomputable def aff (q:dW):dm:=fQ amU VN Ws Xa (.exit 0) (asy q bG) 6
def aAB (q:dW) (j:List iQ) (l:Int) (m:List jc) (o p:Int):Option qF:=bz (Ry j l m o p) fun d=>bz (uC d.1.1 d.1.2.1 d.1.2.2.1 d.1.2.2.2.1 d.1.2.2.2.2.1) fun e=>bz (xQ e.1.1 e.1.2.1 e.1.2.2.1 e.1.2.2.2.1 e.1.2.2.2.2.1 [107]) fun f=>bz (uC f.1.1 f.1.2.1 f.1.2.2.1 f.1.2.2.2.1 f.1.2.2.2.2.1) fun g=>bz (U4 q bG g.1.1 g.1.2.1 g.1.2.2.2.1 g.1.2.2.2.2.1 g.1.2.2.1) fun s=>dL s (fun h=>bz (xQ h.2.2.1.1 h.2.2.1.2.1 h.2.2.2.1 h.2.2.1.2.2.1 h.2.2.1.2.2.2.1 [122]) fun i=>a6 ((i.1.1,(i.1.2.1,(i.1.2.2.1,(i.1.2.2.2.1,(i.1.2.2.2.2.1,()))))),())) (fun b5=>a7)
noncomputable def abg (q:dW):Env:=gB prog tt [] [(238,4,amU),(238,600005,su),(74,600003,jr)] [(238,4,aff q)] [] [(108,uS),(150,apr),(151,adC),(154,zX),(241,Ye),(242,BO),(243,Yf),(247,agT q)]
def agv (q:dW) {d:Type} (a:VN.den->Option d) (b:Ws.den->Option d) (c:Xa.den->Option d) (v:VN.den):Option d:=bo (XJ q (bm a) (bm b) (c ((),((),()),()))) v
theorem atb (q:dW):dJ (abg q) 238 akd (aff q):=nU (agv q) (h2:=by intros;simp only[agv,bm,bo,XJ,bV,bW,bu,bT,bY])
theorem axt (q:dW):dI (abg q) 238 awq:=nG [akd] (aD (fM (atb q)) aN)
theorem ahC (q:dW) (H:DV q):eF (abg q):=eB aN [238] (aD ⟨f238,awq,by kernel_rfl,by kernel_rfl,axt q⟩ aN) (hx:=(aD jW (aD JF (aD qf (aD oz (aD DJ (aD qh (aD DK (aD H.2.2.2.2.2.2.2.2.2.2.2.2.2.1 aN)))))))))
noncomputable def awr:Code:=(f247.body).getD .skip
noncomputable def akg:Code:=cA (cA (cA (cB (cB (awr)))))
def amX:dZ:=⟨[0,100002],[],[0],[],[],[]⟩
def VQ:SQ:=⟨us bL 19,[bL],cW⟩
def Wv:SQ:=⟨us bL 19,[bL],cW⟩
def Xd:SQ:=⟨us [] 20,[bL],[]⟩
def XK (q:dW) {f:Type} (g h:(List iQ)->Int->Int->Int->(List jc)->Option f) (p:Option f) (i:List iQ) (j l m:Int) (o:List jc):Option f:=bz (nz i j o l m [124]) fun d=>cond d.2.1 (bz (Ry d.1.1 d.1.2.1 d.1.2.2.1 d.1.2.2.2.1 d.1.2.2.2.2.1) fun e=>g e.1.1 e.1.2.1 e.1.2.2.2.1 e.1.2.2.2.2.1 e.1.2.2.1)<|h d.1.1 d.1.2.1 d.1.2.2.2.1 d.1.2.2.2.2.1 d.1.2.2.1
def U5 (q:dW):Nat->(List iQ)->Int->Int->Int->(List jc)->Option (Wv.den⊕Xd.den)
 |0,_,_,_,_,_=>a7
 |n+1,d,e,f,g,h=>XK q (U5 q n) (fun i j l m o=>a6 (.inl ((),((),()),((i,j,l,m,()),o,())))) (a6 (.inr ((),((),()),()))) d e f g h
def asB (q:dW) (n:Nat) (v:VQ.den):=bo (U5 q n) v
noncomputable def afi (q:dW):dm:=fQ amX VQ Wv Xd (.exit 0) (asB q bG) 6
def aAE (q:dW) (l:List iQ) (m:Int) (o:List jc) (p s:Int):Option qF:=bz (nz l m o p s [40]) fun f=>bz (Ry f.1.1 f.1.2.1 f.1.2.2.1 f.1.2.2.2.1 f.1.2.2.2.2.1) fun g=>bz (U5 q bG g.1.1 g.1.2.1 g.1.2.2.2.1 g.1.2.2.2.2.1 g.1.2.2.1) fun u=>dL u (fun h=>bz (xQ h.2.2.1.1 h.2.2.1.2.1 h.2.2.2.1 h.2.2.1.2.2.1 h.2.2.1.2.2.2.1 [41]) fun i=>bz (uC i.1.1 i.1.2.1 i.1.2.2.1 i.1.2.2.2.1 i.1.2.2.2.2.1) fun j=>bz (NP j.1.1 j.1.2.1 j.1.2.2.1 j.1.2.2.2.1 j.1.2.2.2.2.1) fun d=>cond d.2.1 (cond (bJ 2 2) (cond (bJ d.1.2.1 d.1.2.1) (cond (bJ d.1.2.2.2.1 d.1.2.2.2.1) (cond (dN (bP d.1.2.2.1 [(2,(d.1.2.1,(0,(d.1.2.2.2.1,()))))]) 32) (cond (bJ 2 2) (cond (bJ d.1.2.1 d.1.2.1) (cond (bJ d.1.2.2.2.1 d.1.2.2.2.1) (cond ((bJ 2 2)&&((bJ d.1.2.1 d.1.2.1)&&((bJ 0 0)&&((bJ d.1.2.2.2.1 d.1.2.2.2.1)&&true)))) (bz (q.q110 d.1.1 d.1.2.1 (bP d.1.2.2.1 [(2,(d.1.2.1,(0,(d.1.2.2.2.1,()))))]) (bD d.1.2.2.1) d.1.2.2.2.2.1) fun e=>cond (fV e.1.2.2.1 (bD d.1.2.2.1)) (cond (lN (dh (bD d.1.2.2.1)) e.1.2.2.1) (a6 ((e.1.1,(e.1.2.1,((ig e.1.2.2.1 (dh (bD d.1.2.2.1)) ((dB e.1.2.2.1 (0,(0,(0,(0,())))) (dh (bD d.1.2.2.1))).1,((dB e.1.2.2.1 (0,(0,(0,(0,())))) (dh (bD d.1.2.2.1))).2.1,(e.1.2.1,((dB e.1.2.2.1 (0,(0,(0,(0,())))) (dh (bD d.1.2.2.1))).2.2.2.1,()))))),(d.1.2.2.2.1,(e.1.2.2.2.2.1,()))))),())) a7) a7) a7) a7) a7) a7) a7) a7) a7) a7)<|some ((d.1.1,(d.1.2.1,(d.1.2.2.1,(d.1.2.2.2.1,(d.1.2.2.2.2.1,()))))),())) (fun v=>a7)
noncomputable def abh (q:dW):Env:=gB prog tt [] [(247,2,amX),(247,600007,su),(74,600003,jr)] [(247,2,afi q)] [] [(108,uS),(109,JC),(110,Ya q),(154,zX),(241,Ye),(242,BO)]
def agy (q:dW) {d:Type} (a:VQ.den->Option d) (b:Wv.den->Option d) (c:Xd.den->Option d) (v:VQ.den):Option d:=bo (XK q (bm a) (bm b) (c ((),((),()),()))) v
theorem ate (q:dW):dJ (abh q) 247 akg (afi q):=nU (agy q) (h2:=by intros;simp only[agy,bm,bo,XK,bV,bW,bu,bT,bY])
theorem axu (q:dW):dI (abh q) 247 awr:=nG [akg] (aD (fM (ate q)) aN)
theorem ahF (q:dW) (H:DV q):eF (abh q):=eB aN [247] (aD ⟨f247,awr,by kernel_rfl,by kernel_rfl,axu q⟩ aN) (hx:=(aD jW (aD yE (aD H.1 (aD oz (aD DJ (aD qh aN)))))))
def aAD (q:dW) (g:List iQ) (h:Int) (i:List jc) (j l:Int):Option qF:=bz (xQ g h i j l [100]) fun d=>bz (q.q245 d.1.1 d.1.2.1 d.1.2.2.1 d.1.2.2.2.1 d.1.2.2.2.2.1) fun e=>bz (xQ e.1.1 e.1.2.1 e.1.2.2.1 e.1.2.2.2.1 e.1.2.2.2.2.1 [103]) fun f=>a6 ((f.1.1,(f.1.2.1,(f.1.2.2.1,(f.1.2.2.2.1,(f.1.2.2.2.2.1,()))))),())
noncomputable def awE (q:dW):Env:=gB prog tt [] [] [] [] [(242,BO),(245,DL q)]
theorem ahE (q:dW) (H:DV q):eF (awE q):=eB aN [] aN (hx:=(aD qh (aD H.2.2.2.2.2.2.1 aN)))
def iw:Nat->dW
 |0=>⟨(fun _ _ _ _ _=>a7),(fun _ _ _ _ _=>a7),(fun _ _ _ _ _=>a7),(fun _ _ _ _ _=>a7),(fun _ _ _ _ _=>a7),(fun _ _ _ _ _=>a7),(fun _ _ _ _ _=>a7),(fun _ _ _ _ _=>a7),(fun _ _ _ _ _=>a7),(fun _ _ _ _ _=>a7),(fun _ _ _ _ _=>a7),(fun _ _ _ _ _=>a7),(fun _ _ _ _ _=>a7),(fun _ _ _ _ _=>a7),(fun _ _ _ _ _=>a7)⟩
 |r+1=>⟨aAq (iw r),aAr (iw r),aAs (iw r),aAt (iw r),aAv (iw r),aAu (iw r),aAC (iw r),aAw (iw r),aAx (iw r),aAy (iw r),aAz (iw r),aAA (iw r),aAB (iw r),aAE (iw r),aAD (iw r)⟩
def auv (d:List iQ) (e:Int) (f:List jc) (g h:Int):Option qF:=(iw bG).q110 d e f g h
def ape:fP:=⟨118,uZ,[],[],fun x y=>auv x.1 x.2.1 x.2.2.1 x.2.2.2.1 x.2.2.2.2.1⟩
def aAF (d:List iQ) (e:Int) (f:List jc) (g h:Int):Option qF:=(iw bG).q153 d e f g h
def ayX:fP:=⟨118,uZ,[],[],fun x y=>aAF x.1 x.2.1 x.2.2.1 x.2.2.2.1 x.2.2.2.2.1⟩
def aAG (d:List iQ) (e:Int) (f:List jc) (g h:Int):Option qF:=(iw bG).q192 d e f g h
def ay5:fP:=⟨118,uZ,[],[],fun x y=>aAG x.1 x.2.1 x.2.2.1 x.2.2.2.1 x.2.2.2.2.1⟩
def aAH (d:List iQ) (e:Int) (f:List jc) (g h:Int):Option qF:=(iw bG).q216 d e f g h
def azd:fP:=⟨118,uZ,[],[],fun x y=>aAH x.1 x.2.1 x.2.2.1 x.2.2.2.1 x.2.2.2.2.1⟩
def aAJ (d:List iQ) (e:Int) (f:List jc) (g h:Int):Option qF:=(iw bG).q229 d e f g h
def azh:fP:=⟨118,uZ,[],[],fun x y=>aAJ x.1 x.2.1 x.2.2.1 x.2.2.2.1 x.2.2.2.2.1⟩
def aAI (d:List iQ) (e:Int) (f:List jc) (g h:Int):Option qF:=(iw bG).q226 d e f g h
def azg:fP:=⟨118,uZ,[],[],fun x y=>aAI x.1 x.2.1 x.2.2.1 x.2.2.2.1 x.2.2.2.2.1⟩
def aAQ (d:List iQ) (e:Int) (f:List jc) (g h:Int):Option qF:=(iw bG).q245 d e f g h
def azo:fP:=⟨118,uZ,[],[],fun x y=>aAQ x.1 x.2.1 x.2.2.1 x.2.2.2.1 x.2.2.2.2.1⟩
def aAK (d:List iQ) (e:Int) (f:List jc) (g h:Int):Option qF:=(iw bG).q233 d e f g h
def azi:fP:=⟨118,uZ,[],[],fun x y=>aAK x.1 x.2.1 x.2.2.1 x.2.2.2.1 x.2.2.2.2.1⟩
def aAL (d:List iQ) (e:Int) (f:List jc) (g h:Int):Option qF:=(iw bG).q234 d e f g h
def azj:fP:=⟨118,uZ,[],[],fun x y=>aAL x.1 x.2.1 x.2.2.1 x.2.2.2.1 x.2.2.2.2.1⟩
def aAM (d:List iQ) (e:Int) (f:List jc) (g h:Int):Option qF:=(iw bG).q235 d e f g h
def azk:fP:=⟨118,uZ,[],[],fun x y=>aAM x.1 x.2.1 x.2.2.1 x.2.2.2.1 x.2.2.2.2.1⟩
def aAN (d:List iQ) (e:Int) (f:List jc) (g h:Int):Option qF:=(iw bG).q236 d e f g h
def azl:fP:=⟨118,uZ,[],[],fun x y=>aAN x.1 x.2.1 x.2.2.1 x.2.2.2.1 x.2.2.2.2.1⟩
def aAO (d:List iQ) (e:Int) (f:List jc) (g h:Int):Option qF:=(iw bG).q237 d e f g h
def azm:fP:=⟨118,uZ,[],[],fun x y=>aAO x.1 x.2.1 x.2.2.1 x.2.2.2.1 x.2.2.2.2.1⟩
def aAP (d:List iQ) (e:Int) (f:List jc) (g h:Int):Option qF:=(iw bG).q238 d e f g h
def azn:fP:=⟨118,uZ,[],[],fun x y=>aAP x.1 x.2.1 x.2.2.1 x.2.2.2.1 x.2.2.2.2.1⟩
def aAS (d:List iQ) (e:Int) (f:List jc) (g h:Int):Option qF:=(iw bG).q247 d e f g h
def azq:fP:=⟨118,uZ,[],[],fun x y=>aAS x.1 x.2.1 x.2.2.1 x.2.2.2.1 x.2.2.2.2.1⟩
def aAR (d:List iQ) (e:Int) (f:List jc) (g h:Int):Option qF:=(iw bG).q246 d e f g h
def azp:fP:=⟨118,uZ,[],[],fun x y=>aAR x.1 x.2.1 x.2.2.1 x.2.2.2.1 x.2.2.2.2.1⟩
theorem aaa (q:dW) (d:DV q):DV ⟨aAq q,aAr q,aAs q,aAt q,aAv q,aAu q,aAC q,aAw q,aAx q,aAy q,aAz q,aAA q,aAB q,aAE q,aAD q⟩:=⟨sB (ahf q d),sB (ahm q d),sB (ahr q d),sB (aht q d),sB (ahv q d),sB (ahu q d),sB (ahD q d),sB (ahx q d),sB (ahy q d),sB (ahz q d),sB (ahA q d),sB (ahB q d),sB (ahC q d),sB (ahF q d),sB (ahE q d)⟩
theorem kL: ∀r,DV (iw r)
 |0=>⟨uV fun _ _=>rfl,uV fun _ _=>rfl,uV fun _ _=>rfl,uV fun _ _=>rfl,uV fun _ _=>rfl,uV fun _ _=>rfl,uV fun _ _=>rfl,uV fun _ _=>rfl,uV fun _ _=>rfl,uV fun _ _=>rfl,uV fun _ _=>rfl,uV fun _ _=>rfl,uV fun _ _=>rfl,uV fun _ _=>rfl,uV fun _ _=>rfl⟩
 |r+1=>aaa _ (kL r)
theorem aiK:dM prog 110 ape:=(kL bG).1
theorem azH:dM prog 153 ayX:=(kL bG).2.1
theorem azI:dM prog 192 ay5:=(kL bG).2.2.1
theorem azJ:dM prog 216 azd:=(kL bG).2.2.2.1
theorem azL:dM prog 229 azh:=(kL bG).2.2.2.2.1
theorem azK:dM prog 226 azg:=(kL bG).2.2.2.2.2.1
theorem azS:dM prog 245 azo:=(kL bG).2.2.2.2.2.2.1
theorem azM:dM prog 233 azi:=(kL bG).2.2.2.2.2.2.2.1
theorem azN:dM prog 234 azj:=(kL bG).2.2.2.2.2.2.2.2.1
theorem azO:dM prog 235 azk:=(kL bG).2.2.2.2.2.2.2.2.2.1
theorem azP:dM prog 236 azl:=(kL bG).2.2.2.2.2.2.2.2.2.2.1
theorem azQ:dM prog 237 azm:=(kL bG).2.2.2.2.2.2.2.2.2.2.2.1
theorem azR:dM prog 238 azn:=(kL bG).2.2.2.2.2.2.2.2.2.2.2.2.1
theorem azU:dM prog 247 azq:=(kL bG).2.2.2.2.2.2.2.2.2.2.2.2.2.1
theorem azT:dM prog 246 azp:=(kL bG).2.2.2.2.2.2.2.2.2.2.2.2.2.2
noncomputable def b75:Code:=(f75.body).getD .skip
noncomputable def aun:Code:=cA (cA (cB (b75)))
def au1:dZ:=⟨[0,2,100001],[],[],[],[],[]⟩
def afO:SQ:=⟨us [cJ,.u,bX] 26,[bL],cW⟩
def acN:SQ:=⟨us [] 29,[bL],cW⟩
def ade:SQ:=⟨us [] 29,[bL],[]⟩
def ady {g:Type} (h:Bool->(List iQ)->Int->Int->Int->(List jc)->Option g) (q:(List iQ)->Int->Int->Int->(List jc)->Option g) (s:Option g) (l:Bool) (i:List iQ) (j m o:Int) (p:List jc):Option g:=cond (gJ j (bD i)) (bz (nz i j p m o [110]) fun e=>cond e.2.1 (h l e.1.1 e.1.2.1 e.1.2.2.2.1 e.1.2.2.2.2.1 e.1.2.2.1)<|cond (!l) (bz (NP e.1.1 e.1.2.1 e.1.2.2.1 e.1.2.2.2.1 e.1.2.2.2.2.1) fun d=>cond d.2.1 (cond (bJ 2 2) (cond (bJ d.1.2.1 d.1.2.1) (cond (bJ d.1.2.2.2.1 d.1.2.2.2.1) (cond (dN (bP d.1.2.2.1 [(2,(d.1.2.1,(0,(d.1.2.2.2.1,()))))]) 32) (cond (bJ 2 2) (cond (bJ d.1.2.1 d.1.2.1) (cond (bJ d.1.2.2.2.1 d.1.2.2.2.1) (cond ((bJ 2 2)&&((bJ d.1.2.1 d.1.2.1)&&((bJ 0 0)&&((bJ d.1.2.2.2.1 d.1.2.2.2.1)&&true)))) (bz (auv d.1.1 d.1.2.1 (bP d.1.2.2.1 [(2,(d.1.2.1,(0,(d.1.2.2.2.1,()))))]) (bD d.1.2.2.1) d.1.2.2.2.2.1) fun f=>cond (fV f.1.2.2.1 (bD d.1.2.2.1)) (cond (lN (dh (bD d.1.2.2.1)) f.1.2.2.1) (h true f.1.1 f.1.2.1 d.1.2.2.2.1 f.1.2.2.2.2.1 (ig f.1.2.2.1 (dh (bD d.1.2.2.1)) ((dB f.1.2.2.1 (0,(0,(0,(0,())))) (dh (bD d.1.2.2.1))).1,((dB f.1.2.2.1 (0,(0,(0,(0,())))) (dh (bD d.1.2.2.1))).2.1,(f.1.2.1,((dB f.1.2.2.1 (0,(0,(0,(0,())))) (dh (bD d.1.2.2.1))).2.2.2.1,())))))) a7) a7) a7) a7) a7) a7) a7) a7) a7) a7)<|bz (GK d.1.1 d.1.2.1 d.1.2.2.1 d.1.2.2.2.1 d.1.2.2.2.2.1 17) fun f=>h false f.1.1 f.1.2.1 f.1.2.2.2.1 f.1.2.2.2.2.1 f.1.2.2.1)<|bz (GK e.1.1 e.1.2.1 e.1.2.2.1 e.1.2.2.2.1 e.1.2.2.2.2.1 17) fun d=>h false d.1.1 d.1.2.1 d.1.2.2.2.1 d.1.2.2.2.2.1 d.1.2.2.1)<|q i j m o p
def ab8:Nat->Bool->(List iQ)->Int->Int->Int->(List jc)->Option (acN.den⊕ade.den)
 |0,_,_,_,_,_,_=>a7
 |n+1,d,e,f,g,h,i=>ady (ab8 n) (fun j l m o p=>a6 (.inl ((),((),()),((j,l,m,o,()),p,())))) (a6 (.inr ((),((),()),()))) d e f g h i
def axV (n:Nat) (v:afO.den):=bl (ab8 n) v
noncomputable def anI:dm:=fQ au1 afO acN ade (.exit 0) (axV bG) 6
def aAU (e:List iQ) (f:Int) (g:List jc) (h i:Int):Option qF:=bz (ab8 bG false e f h i g) fun j=>dL j (fun d=>a6 ((d.2.2.1.1,(d.2.2.1.2.1,(d.2.2.2.1,(d.2.2.1.2.2.1,(d.2.2.1.2.2.2.1,()))))),())) (fun l=>a7)
def aCs:fP:=⟨118,uZ,[],[],fun x y=>aAU x.1 x.2.1 x.2.2.1 x.2.2.2.1 x.2.2.2.2.1⟩
noncomputable def alj:Env:=gB prog tt [] [(75,1,au1),(75,600006,su),(74,600003,jr)] [(75,1,anI)] [] [(108,uS),(109,JC),(110,ape),(111,Yb)]
def aoQ {d:Type} (a:afO.den->Option d) (b:acN.den->Option d) (c:ade.den->Option d) (v:afO.den):Option d:=bl (ady (bk a) (bm b) (c ((),((),()),()))) v
theorem ayw:dJ alj 75 aun anI:=nU (aoQ) (h2:=by intros;simp only[aoQ,bk,bm,bl,ady,bV,bW,bu,bT,bY])
theorem aBD:dI alj 75 b75:=nG [aun] (aD (fM (ayw)) aN)
theorem alk:eF alj:=eB aN [75] (aD ⟨f75,b75,by kernel_rfl,by kernel_rfl,aBD⟩ aN) (hx:=(aD jW (aD yE (aD aiK (aD DI aN)))))
theorem aqk:dM prog 75 aCs:=sB alk
def aDF (e:List iQ):Option ((List jc)×Unit):=cond (bJ 1 1) (cond (bJ 0 0) (cond (bJ (-1) (-1)) (cond (dN [(1,(0,(0,((-1),()))))] 32) (cond (bJ 1 1) (cond (bJ 0 0) (cond (bJ (-1) (-1)) (cond ((bJ 1 1)&&((bJ 0 0)&&((bJ 0 0)&&((bJ (-1) (-1))&&true)))) (bz (aAU e 0 [(1,(0,(0,((-1),()))))] 0 0) fun d=>cond (fV d.1.2.2.1 0) (cond (lN (dh 0) d.1.2.2.1) (a6 ((ig d.1.2.2.1 (dh 0) ((dB d.1.2.2.1 (0,(0,(0,(0,())))) (dh 0)).1,((dB d.1.2.2.1 (0,(0,(0,(0,())))) (dh 0)).2.1,(d.1.2.1,((dB d.1.2.2.1 (0,(0,(0,(0,())))) (dh 0)).2.2.2.1,()))))),())) a7) a7) a7) a7) a7) a7) a7) a7) a7) a7
def avK:Sum:=⟨[DR],[(.list BX,false)],fun x=>aDF x.1⟩
theorem ap8:dE prog 49 avK:=qC [(49,600002,⟨[3],[],[],[],[],[]⟩),(74,600003,jr)] aN (sF aqk aN)
end
end Go.Proofs.YtjgoejaajmhllaaGreatDoor
