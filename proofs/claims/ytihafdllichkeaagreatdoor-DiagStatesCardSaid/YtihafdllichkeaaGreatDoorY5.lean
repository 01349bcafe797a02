/- Parts of the proof, joined and shortened by a program: the plain machine, the functions as it prints them, and the mathematics over them. -/
import Derived.Test.YtihafdllichkeaaGreatDoorY4
set_option linter.unusedVariables false
set_option linter.unusedSimpArgs false
set_option maxRecDepth 100000
set_option maxHeartbeats 4000000
namespace Go.Proofs.YtihafdllichkeaaGreatDoor
section
open Tryz
open Go.RowKit
def aAg (x0:Int):Option qM:=bif(leI 4 x0)then some ((leI x0 12),())else some (false,())
def awd:Sum:=⟨[dD],tzE,fun x=>aAg x.1⟩
noncomputable def aCS:Env:=gp prog tt 344 [] [] []
theorem anz:dK aCS:=eA f344 aN
theorem apH:dY prog 344 awd:=sA anz
def aiz (x0:di):Option Di:=bM (NY x0) fun y0=>bif(bW y0.1 1)then some (97,())else bif(bW y0.1 2)then some (111,())else bif(bW y0.1 3)then some (121,())else bM (aAg y0.1) fun y1=>bif y1.1 then some (60,())else bif(!(bW y0.1 0))then bif(gV x0 0)then some ((cO x0 0),())else none else some (63,())
def av5:Sum:=⟨[.str],[(.int .u8,false)],fun x=>aiz x.1⟩
noncomputable def aCL:Env:=gp prog tt 320 [(227,abJ),(344,awd)] [] []
theorem anm:dK aCL:=eA Tryz.f320 (aD NE (aD apH aN))
theorem apB:dY prog 320 av5:=sA anm
def X4 (x0:di):Option Di:=bif(iq x0 [100,111])then some (100,())else bif(iq x0 [100,111,110,101])then some (103,())else bif(iq x0 [102,111,114])then some (114,())else bif(iq x0 [105,110])then some (107,())else bif(iq x0 [99,97,115,101])then some (99,())else bif(iq x0 [101,115,97,99])then some (122,())else some (120,())
def O3 (x0:di):Option Di:=bif(iq x0 [105,102])then some (105,())else bif(iq x0 [116,104,101,110])then some (116,())else bif(iq x0 [101,108,105,102])then some (101,())else bif(iq x0 [101,108,115,101])then some (108,())else bif(iq x0 [102,105])then some (102,())else bif(iq x0 [119,104,105,108,101])then bif(iq x0 [119,104,105,108,101])then some (119,())else X4 x0 else bif(iq x0 [117,110,116,105,108])then some (119,())else X4 x0
def aiA (x0:di):Option Di:=bif(iq x0 [33])then bif(iq x0 [33])then bif(gV x0 0)then some ((cO x0 0),())else none else O3 x0 else bif(iq x0 [123])then bif(iq x0 [123])then bif(gV x0 0)then some ((cO x0 0),())else none else O3 x0 else bif(iq x0 [125])then bif(gV x0 0)then some ((cO x0 0),())else none else O3 x0
def av6:Sum:=⟨[.str],[(.int .u8,false)],fun x=>aiA x.1⟩
noncomputable def aCM:Env:=gp prog tt 321 [] [] []
theorem ann:dK aCM:=eA f321 aN
theorem apC:dY prog 321 av6:=sA ann
def RG (x0:gU):Option Di:=bif(bW x0.1 2)then some (110,())else bif(bW x0.1 4)then bM (aiz x0.2.1) fun y0=>some (y0.1,())else bif(bW x0.1 5)then some (35,())else bif(bW x0.1 6)then bM (aiA x0.2.1) fun y0=>some (y0.1,())else some (63,())
def avT:Sum:=⟨[tyD],[(.int .u8,false)],fun x=>RG x.1⟩
noncomputable def aCC:Env:=gp prog tt 293 [(320,av5),(321,av6)] [] []
theorem am8:dK aCC:=eA f293 (aD apB (aD apC aN))
theorem aps:dY prog 293 avT:=sA am8
def xX (x0:List gU) (x1:Int) (x2:List gI) (x3 x4 x5:Int):Option (taE×Di):=bif(leI (bP x0) (dA .i64 x1 x5))then some ((x0,(x1,(x2,(x3,(x4,()))))),(0,()))else bif(gV x0 (dA .i64 x1 x5))then bM (RG (fZ x0 (0,([],(0,(0,())))) (dA .i64 x1 x5))) fun y0=>some ((x0,(x1,(x2,(x3,(x4,()))))),(y0.1,()))else none
def EP:gX:=⟨177,GU,[dD],[.int .u8],fun x y=>xX x.1 x.2.1 x.2.2.1 x.2.2.2.1 x.2.2.2.2.1 y.1⟩
noncomputable def aCl:Env:=ed prog tt [(293,avT)] [] [] []
theorem amF:dK aCl:=eB (aD aps aN) [] aN
theorem sQ:eF prog 242 EP:=sB amF
def VM (x0:List gU) (x1:Int) (x2:List gI) (x3 x4:Int) (x5:di):Option (taE×qM):=bM (xX x0 x1 x2 x3 x4 0) fun y0=>bif(!(bW y0.2.1 0))then bM (acP x5 y0.2.1) fun y1=>some ((y0.1.1,(y0.1.2.1,(y0.1.2.2.1,(y0.1.2.2.2.1,(y0.1.2.2.2.2.1,()))))),((leI 0 y1.1),()))else some ((y0.1.1,(y0.1.2.1,(y0.1.2.2.1,(y0.1.2.2.2.1,(y0.1.2.2.2.2.1,()))))),(false,()))
def abK:gX:=⟨177,GU,[.str],[.bool],fun x y=>VM x.1 x.2.1 x.2.2.1 x.2.2.2.1 x.2.2.2.2.1 y.1⟩
noncomputable def aCk:Env:=ed prog tt [(292,ahw)] [] [] [] [(242,EP)]
theorem amE:dK aCk:=eB (aD WW aN) [] aN (hx:=(aD sQ aN))
theorem NG:eF prog 241 abK:=sB amE
def lI (x0:List gU) (x1:Int) (x2:List gI) (x3 x4:Int) (x5:di):Option (taE×qM):=bM (VM x0 x1 x2 x3 x4 x5) fun y0=>bif(!y0.2.1)then some ((y0.1.1,(y0.1.2.1,(y0.1.2.2.1,(y0.1.2.2.2.1,(y0.1.2.2.2.2.1,()))))),(false,()))else some ((y0.1.1,((dA .i64 y0.1.2.1 1),(y0.1.2.2.1,(y0.1.2.2.2.1,(y0.1.2.2.2.2.1,()))))),(true,()))
def sN:gX:=⟨177,GU,[.str],[.bool],fun x y=>lI x.1 x.2.1 x.2.2.1 x.2.2.2.1 x.2.2.2.2.1 y.1⟩
noncomputable def aB0:Env:=ed prog tt [] [] [] [] [(241,abK)]
theorem ama:dK aB0:=eB aN [] aN (hx:=(aD NG aN))
theorem kQ:eF prog 184 sN:=sB ama
def acQ (x0:List gU) (x1:Int) (x2:List gI) (x3 x4:Int):Option (taE×qM):=bM (xX x0 x1 x2 x3 x4 0) fun y0=>bif(bW y0.2.1 60)then some ((y0.1.1,(y0.1.2.1,(y0.1.2.2.1,(y0.1.2.2.2.1,(y0.1.2.2.2.2.1,()))))),(true,()))else bif(bW y0.2.1 35)then bM (xX y0.1.1 y0.1.2.1 y0.1.2.2.1 y0.1.2.2.2.1 y0.1.2.2.2.2.1 1) fun y1=>some ((y1.1.1,(y1.1.2.1,(y1.1.2.2.1,(y1.1.2.2.2.1,(y1.1.2.2.2.2.1,()))))),((bW y1.2.1 60),()))else some ((y0.1.1,(y0.1.2.1,(y0.1.2.2.1,(y0.1.2.2.2.1,(y0.1.2.2.2.2.1,()))))),(false,()))
def ahx:gX:=⟨177,GU,[],[.bool],fun x y=>acQ x.1 x.2.1 x.2.2.1 x.2.2.2.1 x.2.2.2.2.1⟩
noncomputable def aCD:Env:=ed prog tt [] [] [] [] [(242,EP)]
theorem am9:dK aCD:=eB aN [] aN (hx:=(aD sQ aN))
theorem WX:eF prog 294 ahx:=sB am9
def VQ (x0:List gU) (x1:Int) (x2:List gI) (x3 x4:Int):Option (taE×qM):=bif(iG x4 200)then bM (VM x0 x1 x2 x3 x4 [123,40,105,119,114,99]) fun y0=>some ((y0.1.1,(y0.1.2.1,(y0.1.2.2.1,(y0.1.2.2.2.1,(y0.1.2.2.2.2.1,()))))),(y0.2.1,()))else some ((x0,(x1,(x2,(x3,(x4,()))))),(false,()))
def abN:gX:=⟨177,GU,[],[.bool],fun x y=>VQ x.1 x.2.1 x.2.2.1 x.2.2.2.1 x.2.2.2.2.1⟩
noncomputable def aCE:Env:=ed prog tt [] [] [] [] [(241,abK)]
theorem ana:dK aCE:=eB aN [] aN (hx:=(aD NG aN))
theorem NJ:eF prog 295 abN:=sB ana
def acG (x0:List gU) (x1:Int) (x2:List gI) (x3 x4:Int):Option (taE×qM):=bM (xX x0 x1 x2 x3 x4 0) fun y0=>bif(bW y0.2.1 120)then some ((y0.1.1,(y0.1.2.1,(y0.1.2.2.1,(y0.1.2.2.2.1,(y0.1.2.2.2.2.1,()))))),(true,()))else bM (acQ y0.1.1 y0.1.2.1 y0.1.2.2.1 y0.1.2.2.2.1 y0.1.2.2.2.2.1) fun y1=>bif y1.2.1 then some ((y1.1.1,(y1.1.2.1,(y1.1.2.2.1,(y1.1.2.2.2.1,(y1.1.2.2.2.2.1,()))))),(true,()))else bM (VQ y1.1.1 y1.1.2.1 y1.1.2.2.1 y1.1.2.2.2.1 y1.1.2.2.2.2.1) fun y2=>some ((y2.1.1,(y2.1.2.1,(y2.1.2.2.1,(y2.1.2.2.2.1,(y2.1.2.2.2.2.1,()))))),(y2.2.1,()))
def ahp:gX:=⟨177,GU,[],[.bool],fun x y=>acG x.1 x.2.1 x.2.2.1 x.2.2.2.1 x.2.2.2.2.1⟩
noncomputable def aCm:Env:=ed prog tt [] [] [] [] [(242,EP),(294,ahx),(295,abN)]
theorem amG:dK aCm:=eB aN [] aN (hx:=(aD sQ (aD WX (aD NJ aN))))
theorem WP:eF prog 243 ahp:=sB amG
def JA (x0:List gU) (x1:Int) (x2:List gI) (x3 x4:Int):Option (taE×qM):=bM (xX x0 x1 x2 x3 x4 0) fun y0=>bif(bW y0.2.1 33)then some ((y0.1.1,(y0.1.2.1,(y0.1.2.2.1,(y0.1.2.2.2.1,(y0.1.2.2.2.2.1,()))))),(true,()))else bM (acG y0.1.1 y0.1.2.1 y0.1.2.2.1 y0.1.2.2.2.1 y0.1.2.2.2.2.1) fun y1=>some ((y1.1.1,(y1.1.2.1,(y1.1.2.2.1,(y1.1.2.2.2.1,(y1.1.2.2.2.2.1,()))))),(y1.2.1,()))
def NC:gX:=⟨177,GU,[],[.bool],fun x y=>JA x.1 x.2.1 x.2.2.1 x.2.2.2.1 x.2.2.2.2.1⟩
noncomputable def aB1:Env:=ed prog tt [] [] [] [] [(242,EP),(243,ahp)]
theorem amb:dK aB1:=eB aN [] aN (hx:=(aD sQ (aD WP aN)))
theorem Bc:eF prog 185 NC:=sB amb
noncomputable def aBo:Code:=(f245.body).getD .skip
noncomputable def aqz:Code:=cA (cA (cA (cB (cB (aBo)))))
def as7:dZ:=⟨[0,3,100002],[],[3],[],[2],[]⟩
def Y7:SQ:=⟨[.ptr 0 0,.u,.u,.v .bool,.u,.u,.u,.u,.u],[[.ptr 0 0]],[.box 0 177 [.v oU,.v dD,.slc 1,.v dD,.v dD],.arr 1 pg]⟩
def ZP:SQ:=⟨[.u,.u,.u,.v .bool,.u,.u,.u,.u,.u],[[.ptr 0 0]],[.box 0 177 [.v oU,.v dD,.slc 1,.v dD,.v dD],.arr 1 pg]⟩
def aaA:SQ:=⟨us [.u,.u,.v .bool] 6,[[.ptr 0 0]],[]⟩
def P8 {γ:Type} (rec kE:Bool->(List gU)->Int->Int->Int->(List gI)->Option γ) (kR:Bool->Option γ) (v0:Bool) (v1:List gU) (v2 v3 v4:Int) (v5:List gI):Option γ:=bM (lI v1 v2 v5 v3 v4 [110]) fun y0=>bif y0.2.1 then rec v0 y0.1.1 y0.1.2.1 y0.1.2.2.2.1 y0.1.2.2.2.2.1 y0.1.2.2.1 else kE v0 y0.1.1 y0.1.2.1 y0.1.2.2.2.1 y0.1.2.2.2.2.1 y0.1.2.2.1
def JW:Nat->Bool->(List gU)->Int->Int->Int->(List gI)->Option (ZP.den⊕aaA.den)
 |0,_,_,_,_,_,_=>none
 |n+1,v0,v1,v2,v3,v4,v5=>P8 (JW n) (fun e0 e1 e2 e3 e4 e5=>some (.inl ((e0,()),((),()),((e1,e2,e3,e4,()),e5,())))) (fun r0=>some (.inr ((r0,()),((),()),()))) v0 v1 v2 v3 v4 v5
def ayn (n:Nat) (v:Y7.den):=JW n v.1.1 v.2.2.1.1 v.2.2.1.2.1 v.2.2.1.2.2.1 v.2.2.1.2.2.2.1 v.2.2.2.1
noncomputable def ajg:dI:=fU as7 Y7 ZP aaA (.exit 0) (ayn bU) 6
def pJ (x0:List gU) (x1:Int) (x2:List gI) (x3 x4:Int):Option (taE×qM):=bM (lI x0 x1 x2 x3 x4 [110]) fun y0=>bM (JW bU y0.2.1 y0.1.1 y0.1.2.1 y0.1.2.2.2.1 y0.1.2.2.2.2.1 y0.1.2.2.1) fun y1=>dV y1 (fun a2=>some ((a2.2.2.1.1,(a2.2.2.1.2.1,(a2.2.2.2.1,(a2.2.2.1.2.2.1,(a2.2.2.1.2.2.2.1,()))))),(a2.1.1,()))) (fun b2=>none)
def CW:gX:=⟨177,GU,[],[.bool],fun x y=>pJ x.1 x.2.1 x.2.2.1 x.2.2.2.1 x.2.2.2.2.1⟩
noncomputable def afu:Env:=ed prog tt [] [(245,2,as7)] [(245,2,ajg)] [] [(184,sN)]
def akv {γ:Type} (a:Y7.den->Option γ) (b:ZP.den->Option γ) (c:aaA.den->Option γ) (v:Y7.den):Option γ:=P8 (fun v0 v1 v2 v3 v4 v5=>a ((v0,()),((),()),((v1,v2,v3,v4,()),v5,()))) (fun e0 e1 e2 e3 e4 e5=>b ((e0,()),((),()),((e1,e2,e3,e4,()),e5,()))) (fun r0=>c ((r0,()),((),()),())) v.1.1 v.2.2.1.1 v.2.2.1.2.1 v.2.2.1.2.2.1 v.2.2.1.2.2.2.1 v.2.2.2.1
theorem azd:dX afu 245 aqz ajg:=lK (akv) (h2:=by intros;simp only[akv,P8,dm,dn,bK,cZ,dw])
theorem aDS:dU afu 245 aBo:=qj [aqz] (aD (fM (azd)) aN)
theorem amI:dK afu:=eB aN [245] (aD ⟨f245,aBo,by kernel_rfl,by kernel_rfl,aDS⟩ aN) (hx:=(aD kQ aN))
theorem qJ:eF prog 245 CW:=sB amI
def axK:dZ:=⟨[0],[],[],[],[],[]⟩
def adn:dZ:=⟨[0,2,6,7],[],[],[],[],[]⟩
def xY (x0:List gU) (x1:Int) (x2:List gI) (x3 x4:Int):Option Bl:=bif(bW 18 18)then bif(bW x1 x1)then bif(bW x3 x3)then bif(eQ (cu x2 [(18,(x1,(0,(x3,()))))]) 32)then bif(bW 18 18)then bif(bW x1 x1)then bif(bW x3 x3)then bif((bW 18 18)&&((bW x1 x1)&&((bW 0 0)&&((bW x3 x3)&&true))))then bif(gV (cu x2 [(18,(x1,(0,(x3,()))))]) (bP x2))then bif(oD (dG (bP x2)) (cu x2 [(18,(x1,(0,(x3,()))))]))then some ((x0,(x1,((iH (cu x2 [(18,(x1,(0,(x3,()))))]) (dG (bP x2)) ((dL (cu x2 [(18,(x1,(0,(x3,()))))]) (0,(0,(0,(0,())))) (dG (bP x2))).1,((dL (cu x2 [(18,(x1,(0,(x3,()))))]) (0,(0,(0,(0,())))) (dG (bP x2))).2.1,(x1,((dL (cu x2 [(18,(x1,(0,(x3,()))))]) (0,(0,(0,(0,())))) (dG (bP x2))).2.2.2.1,()))))),(x3,(x4,()))))),())else none else none else none else none else none else none else none else none else none else none
def EQ:gX:=⟨177,GU,[],[],fun x y=>xY x.1 x.2.1 x.2.2.1 x.2.2.2.1 x.2.2.2.2.1⟩
noncomputable def aCN:Env:=ed prog tt [] [(322,600000,axK),(119,600003,adn)] [] []
theorem ano:dK aCN:=eB aN [] aN
theorem sS:eF prog 322 EQ:=sB ano
def acA (x0:di):Option qM:=bif(!(iq x0 []))then bM (Rz x0 0) fun y0=>some ((bW y0.1 (bP x0)),())else some (false,())
def ahh:Sum:=⟨[.str],tzE,fun x=>acA x.1⟩
noncomputable def aBR:Env:=gp prog tt 157 [(216,abI)] [] []
theorem al0:dK aBR:=eA f157 (aD ND aN)
theorem WG:dY prog 157 ahh:=sA al0
def aiE (x0:List gU) (x1:Int) (x2:List gI) (x3 x4:Int):Option (taE×qM):=bM (xX x0 x1 x2 x3 x4 0) fun y0=>bif(bW y0.2.1 120)then bM (xX y0.1.1 y0.1.2.1 y0.1.2.2.1 y0.1.2.2.2.1 y0.1.2.2.2.2.1 1) fun y1=>bif(bW y1.2.1 40)then bif(iG y1.1.2.2.2.2.1 200)then bif(gV y1.1.1 y1.1.2.1)then bM (acA (fZ y1.1.1 (0,([],(0,(0,())))) y1.1.2.1).2.1) fun y2=>some ((y1.1.1,(y1.1.2.1,(y1.1.2.2.1,(y1.1.2.2.2.1,(y1.1.2.2.2.2.1,()))))),(y2.1,()))else none else some ((y1.1.1,(y1.1.2.1,(y1.1.2.2.1,(y1.1.2.2.2.1,(y1.1.2.2.2.2.1,()))))),(false,()))else some ((y1.1.1,(y1.1.2.1,(y1.1.2.2.1,(y1.1.2.2.2.1,(y1.1.2.2.2.2.1,()))))),(false,()))else some ((y0.1.1,(y0.1.2.1,(y0.1.2.2.1,(y0.1.2.2.2.1,(y0.1.2.2.2.2.1,()))))),(false,()))
def awe:gX:=⟨177,GU,[],[.bool],fun x y=>aiE x.1 x.2.1 x.2.2.1 x.2.2.2.1 x.2.2.2.2.1⟩
noncomputable def aCT:Env:=ed prog tt [(157,ahh)] [] [] [] [(242,EP)]
theorem anB:dK aCT:=eB (aD WG aN) [] aN (hx:=(aD sQ aN))
theorem apI:eF prog 347 awe:=sB anB
def axz:dZ:=⟨[1,2],[],[],[],[],[]⟩
def adb:dZ:=⟨[0,2,6,7],[],[],[],[],[]⟩
def DT (x0:List gU) (x1:Int) (x2:List gI) (x3 x4 x5:Int):Option Bl:=bif(bW x5 x5)then bif(bW x1 x1)then bif(bW x3 x3)then bif(eQ (cu x2 [(x5,(x1,(0,(x3,()))))]) 32)then bif(bW x5 x5)then bif(bW x1 x1)then bif(bW x3 x3)then bif((bW x5 x5)&&((bW x1 x1)&&((bW 0 0)&&((bW x3 x3)&&true))))then bif(gV (cu x2 [(x5,(x1,(0,(x3,()))))]) (bP x2))then bif(oD (dG (bP x2)) (cu x2 [(x5,(x1,(0,(x3,()))))]))then some ((x0,((dA .i64 x1 1),((iH (cu x2 [(x5,(x1,(0,(x3,()))))]) (dG (bP x2)) ((dL (cu x2 [(x5,(x1,(0,(x3,()))))]) (0,(0,(0,(0,())))) (dG (bP x2))).1,((dL (cu x2 [(x5,(x1,(0,(x3,()))))]) (0,(0,(0,(0,())))) (dG (bP x2))).2.1,((dA .i64 x1 1),((dL (cu x2 [(x5,(x1,(0,(x3,()))))]) (0,(0,(0,(0,())))) (dG (bP x2))).2.2.2.1,()))))),(x3,(x4,()))))),())else none else none else none else none else none else none else none else none else none else none
def Uk:gX:=⟨177,GU,[dD],[],fun x y=>DT x.1 x.2.1 x.2.2.1 x.2.2.2.1 x.2.2.2.2.1 y.1⟩
noncomputable def aB2:Env:=ed prog tt [] [(187,600001,axz),(119,600003,adb)] [] []
theorem amd:dK aB2:=eB aN [] aN
theorem Gv:eF prog 187 Uk:=sB amd
def N8 (x0:List gU) (x1:Int) (x2:List gI) (x3 x4:Int):Option (taE×qM):=bif(iG x1 (bP x0))then bif(gV x0 x1)then some ((x0,(x1,(x2,(x3,(x4,()))))),((bW (fZ x0 (0,([],(0,(0,())))) x1).1 6),()))else none else some ((x0,(x1,(x2,(x3,(x4,()))))),(false,()))
def Un:gX:=⟨177,GU,[],[.bool],fun x y=>N8 x.1 x.2.1 x.2.2.1 x.2.2.2.1 x.2.2.2.2.1⟩
noncomputable def aC4:Env:=ed prog tt [] [] [] []
theorem anS:dK aC4:=eB aN [] aN
theorem Gy:eF prog 369 Un:=sB anS
def N7 (x0:List gU) (x1:Int) (x2:List gI) (x3 x4:Int):Option Bl:=bM (N8 x0 x1 x2 x3 x4) fun y0=>bif y0.2.1 then bM (DT y0.1.1 y0.1.2.1 y0.1.2.2.1 y0.1.2.2.2.1 y0.1.2.2.2.2.1 7) fun y1=>some ((y1.1.1,(y1.1.2.1,(y1.1.2.2.1,(y1.1.2.2.2.1,(y1.1.2.2.2.2.1,()))))),())else bM (xY y0.1.1 y0.1.2.1 y0.1.2.2.1 y0.1.2.2.2.1 y0.1.2.2.2.2.1) fun y1=>some ((y1.1.1,(y1.1.2.1,(y1.1.2.2.1,(y1.1.2.2.2.1,(y1.1.2.2.2.2.1,()))))),())
def Um:gX:=⟨177,GU,[],[],fun x y=>N7 x.1 x.2.1 x.2.2.1 x.2.2.2.1 x.2.2.2.2.1⟩
noncomputable def aC2:Env:=ed prog tt [] [] [] [] [(187,Uk),(322,EQ),(369,Un)]
theorem anQ:dK aC2:=eB aN [] aN (hx:=(aD Gv (aD sS (aD Gy aN))))
theorem Gx:eF prog 367 Um:=sB anQ
def axO:dZ:=⟨[1],[],[],[],[],[]⟩
def adu:dZ:=⟨[0,2,6,7],[],[],[],[],[]⟩
def Af (x0:List gU) (x1:Int) (x2:List gI) (x3 x4:Int):Option (taE×qM):=bM (acQ x0 x1 x2 x3 x4) fun y0=>bif(!y0.2.1)then some ((y0.1.1,(y0.1.2.1,(y0.1.2.2.1,(y0.1.2.2.2.1,(y0.1.2.2.2.2.1,()))))),(false,()))else bif(bW 8 8)then bif(bW y0.1.2.1 y0.1.2.1)then bif(bW y0.1.2.2.2.1 y0.1.2.2.2.1)then bif(eQ (cu y0.1.2.2.1 [(8,(y0.1.2.1,(0,(y0.1.2.2.2.1,()))))]) 32)then bif(bW 8 8)then bif(bW y0.1.2.1 y0.1.2.1)then bif(bW y0.1.2.2.2.1 y0.1.2.2.2.1)then bif((bW 8 8)&&((bW y0.1.2.1 y0.1.2.1)&&((bW 0 0)&&((bW y0.1.2.2.2.1 y0.1.2.2.2.1)&&true))))then bM (lI y0.1.1 y0.1.2.1 (cu y0.1.2.2.1 [(8,(y0.1.2.1,(0,(y0.1.2.2.2.1,()))))]) (bP y0.1.2.2.1) y0.1.2.2.2.2.1 [35]) fun y1=>bM (lI y1.1.1 y1.1.2.1 y1.1.2.2.1 y1.1.2.2.2.1 y1.1.2.2.2.2.1 [60]) fun y2=>bM (N7 y2.1.1 y2.1.2.1 y2.1.2.2.1 y2.1.2.2.2.1 y2.1.2.2.2.2.1) fun y3=>bif(gV y3.1.2.2.1 (bP y0.1.2.2.1))then bif(oD (dG (bP y0.1.2.2.1)) y3.1.2.2.1)then some ((y3.1.1,(y3.1.2.1,((iH y3.1.2.2.1 (dG (bP y0.1.2.2.1)) ((dL y3.1.2.2.1 (0,(0,(0,(0,())))) (dG (bP y0.1.2.2.1))).1,((dL y3.1.2.2.1 (0,(0,(0,(0,())))) (dG (bP y0.1.2.2.1))).2.1,(y3.1.2.1,((dL y3.1.2.2.1 (0,(0,(0,(0,())))) (dG (bP y0.1.2.2.1))).2.2.2.1,()))))),(y0.1.2.2.2.1,(y3.1.2.2.2.2.1,()))))),(true,()))else none else none else none else none else none else none else none else none else none else none
def ahA:gX:=⟨177,GU,[],[.bool],fun x y=>Af x.1 x.2.1 x.2.2.1 x.2.2.2.1 x.2.2.2.2.1⟩
noncomputable def aC1:Env:=ed prog tt [] [(366,600003,axO),(119,600003,adu)] [] [] [(184,sN),(294,ahx),(367,Um)]
theorem anP:dK aC1:=eB aN [] aN (hx:=(aD kQ (aD WX (aD Gx aN))))
theorem W9:eF prog 366 ahA:=sB anP
def aie (x0:di):Option (di×di×Bool×Unit):=bM (Rz x0 0) fun y0=>bif(bW y0.1 0)then some ([],([],(false,())))else bif(bW y0.1 (bP x0))then some ([],([],(false,())))else bif(gV x0 y0.1)then bif(!(bW (cO x0 y0.1) 61))then some ([],([],(false,())))else bif(gm (bP x0) 0 y0.1)then bif(gm (bP x0) (dA .i64 y0.1 1) (bP x0))then some ((sub x0 0 y0.1),((sub x0 (dA .i64 y0.1 1) (bP x0)),(true,())))else none else none else none
def avy:Sum:=⟨[.str],[(.str,false),(.str,false),(.bool,false)],fun x=>aie x.1⟩
noncomputable def aCb:Env:=gp prog tt 225 [(216,abI)] [] []
theorem ams:dK aCb:=eA f225 (aD ND aN)
theorem ao6:dY prog 225 avy:=sA ams
def aiG (x0:di):Option qM:=bM (aie x0) fun y0=>some (y0.2.2.1,())
def awg:Sum:=⟨[.str],tzE,fun x=>aiG x.1⟩
noncomputable def aC5:Env:=gp prog tt 370 [(225,avy)] [] []
theorem anT:dK aC5:=eA f370 (aD ao6 aN)
theorem apK:dY prog 370 awg:=sA anT
noncomputable def aBs:Code:=(f350.body).getD .skip
noncomputable def aqP:Code:=cA (cA (cB (cB (cA (aBs)))))
def ato:dZ:=⟨[0,2,100003],[],[],[],[],[]⟩
def Zn:SQ:=⟨us [.ptr 0 0,.u,.v .bool] 28,[[.ptr 0 0]],[.box 0 177 [.v oU,.v dD,.slc 1,.v dD,.v dD],.arr 1 pg]⟩
def aab:SQ:=⟨us [] 31,[[.ptr 0 0]],[.box 0 177 [.v oU,.v dD,.slc 1,.v dD,.v dD],.arr 1 pg]⟩
def aaP:SQ:=⟨us [] 31,[[.ptr 0 0]],[]⟩
def Ql {γ:Type} (rec:Bool->(List gU)->Int->Int->Int->(List gI)->Option γ) (kE:(List gU)->Int->Int->Int->(List gI)->Option γ) (kR:Option γ) (v0:Bool) (v1:List gU) (v2 v3 v4:Int) (v5:List gI):Option γ:=bM (Af v1 v2 v5 v3 v4) fun y0=>bif y0.2.1 then rec v0 y0.1.1 y0.1.2.1 y0.1.2.2.2.1 y0.1.2.2.2.2.1 y0.1.2.2.1 else bM (N8 y0.1.1 y0.1.2.1 y0.1.2.2.1 y0.1.2.2.2.1 y0.1.2.2.2.2.1) fun y1=>bif(!y1.2.1)then kE y1.1.1 y1.1.2.1 y1.1.2.2.2.1 y1.1.2.2.2.2.1 y1.1.2.2.1 else bif(!v0)then bif(gV y1.1.1 y1.1.2.1)then bM (aiG (fZ y1.1.1 (0,([],(0,(0,())))) y1.1.2.1).2.1) fun y2=>bif y2.1 then bM (DT y1.1.1 y1.1.2.1 y1.1.2.2.1 y1.1.2.2.2.1 y1.1.2.2.2.2.1 6) fun y3=>rec v0 y3.1.1 y3.1.2.1 y3.1.2.2.2.1 y3.1.2.2.2.2.1 y3.1.2.2.1 else bM (DT y1.1.1 y1.1.2.1 y1.1.2.2.1 y1.1.2.2.2.1 y1.1.2.2.2.2.1 7) fun y3=>rec true y3.1.1 y3.1.2.1 y3.1.2.2.2.1 y3.1.2.2.2.2.1 y3.1.2.2.1 else none else bM (DT y1.1.1 y1.1.2.1 y1.1.2.2.1 y1.1.2.2.2.1 y1.1.2.2.2.2.1 7) fun y2=>rec true y2.1.1 y2.1.2.1 y2.1.2.2.2.1 y2.1.2.2.2.2.1 y2.1.2.2.1
def FV:Nat->Bool->(List gU)->Int->Int->Int->(List gI)->Option (aab.den⊕aaP.den)
 |0,_,_,_,_,_,_=>none
 |n+1,v0,v1,v2,v3,v4,v5=>Ql (FV n) (fun e0 e1 e2 e3 e4=>some (.inl ((),((),()),((e0,e1,e2,e3,()),e4,())))) (some (.inr ((),((),()),()))) v0 v1 v2 v3 v4 v5
def ayD (n:Nat) (v:Zn.den):=FV n v.1.1 v.2.2.1.1 v.2.2.1.2.1 v.2.2.1.2.2.1 v.2.2.1.2.2.2.1 v.2.2.2.1
noncomputable def ajw:dI:=fU ato Zn aab aaP (.exit 0) (ayD bU) 6
def aiF (x0:List gU) (x1:Int) (x2:List gI) (x3 x4:Int):Option Bl:=bM (FV bU false x0 x1 x3 x4 x2) fun y0=>dV y0 (fun a1=>some ((a1.2.2.1.1,(a1.2.2.1.2.1,(a1.2.2.2.1,(a1.2.2.1.2.2.1,(a1.2.2.1.2.2.2.1,()))))),())) (fun b1=>none)
def awf:gX:=⟨177,GU,[],[],fun x y=>aiF x.1 x.2.1 x.2.2.1 x.2.2.2.1 x.2.2.2.2.1⟩
noncomputable def afI:Env:=ed prog tt [(370,awg)] [(350,3,ato)] [(350,3,ajw)] [] [(187,Uk),(366,ahA),(369,Un)]
def akL {γ:Type} (a:Zn.den->Option γ) (b:aab.den->Option γ) (c:aaP.den->Option γ) (v:Zn.den):Option γ:=Ql (fun v0 v1 v2 v3 v4 v5=>a ((v0,()),((),()),((v1,v2,v3,v4,()),v5,()))) (fun e0 e1 e2 e3 e4=>b ((),((),()),((e0,e1,e2,e3,()),e4,()))) (c ((),((),()),())) v.1.1 v.2.2.1.1 v.2.2.1.2.1 v.2.2.1.2.2.1 v.2.2.1.2.2.2.1 v.2.2.2.1
theorem azt:dX afI 350 aqP ajw:=lK (akL) (h2:=by intros;simp only[akL,Ql,dm,dn,bK,cZ,dw])
theorem aEa:dU afI 350 aBs:=qj [aqP] (aD (fM (azt)) aN)
theorem anD:dK afI:=eB (aD apK aN) [350] (aD ⟨f350,aBs,by kernel_rfl,by kernel_rfl,aEa⟩ aN) (hx:=(aD Gv (aD W9 (aD Gy aN))))
theorem apJ:eF prog 350 awf:=sB anD
def rJ (x0:List gU) (x1:Int) (x2:List gI) (x3 x4:Int) (x5:di):Option Bl:=bM (lI x0 x1 x2 x3 x4 x5) fun y0=>bif(!y0.2.1)then bM (xY y0.1.1 y0.1.2.1 y0.1.2.2.1 y0.1.2.2.2.1 y0.1.2.2.2.2.1) fun y1=>some ((y1.1.1,(y1.1.2.1,(y1.1.2.2.1,(y1.1.2.2.2.1,(y1.1.2.2.2.2.1,()))))),())else some ((y0.1.1,(y0.1.2.1,(y0.1.2.2.1,(y0.1.2.2.2.1,(y0.1.2.2.2.2.1,()))))),())
def ER:gX:=⟨177,GU,[.str],[],fun x y=>rJ x.1 x.2.1 x.2.2.1 x.2.2.2.1 x.2.2.2.2.1 y.1⟩
noncomputable def aC3:Env:=ed prog tt [] [] [] [] [(184,sN),(322,EQ)]
theorem anR:dK aC3:=eB aN [] aN (hx:=(aD kQ (aD sS aN)))
theorem sU:eF prog 368 ER:=sB anR
structure eY where
 q186:(List gU)->Int->(List gI)->Int->Int->Option Bl
 q244:(List gU)->Int->(List gI)->Int->Int->Option Bl
 q296:(List gU)->Int->(List gI)->Int->Int->Option Bl
 q324:(List gU)->Int->(List gI)->Int->Int->Option Bl
 q349:(List gU)->Int->(List gI)->Int->Int->Option Bl
 q346:(List gU)->Int->(List gI)->Int->Int->Option Bl
 q372:(List gU)->Int->(List gI)->Int->Int->Option Bl
 q359:(List gU)->Int->(List gI)->Int->Int->Option Bl
 q360:(List gU)->Int->(List gI)->Int->Int->Option Bl
 q361:(List gU)->Int->(List gI)->Int->Int->Option Bl
 q362:(List gU)->Int->(List gI)->Int->Int->Option Bl
 q363:(List gU)->Int->(List gI)->Int->Int->Option Bl
 q364:(List gU)->Int->(List gI)->Int->Int->Option Bl
 q374:(List gU)->Int->(List gI)->Int->Int->Option Bl
 q373:(List gU)->Int->(List gI)->Int->Int->Option Bl
def abH (q:eY):gX:=⟨177,GU,[],[],fun x y=>q.q186 x.1 x.2.1 x.2.2.1 x.2.2.2.1 x.2.2.2.2.1⟩
def ak0 (q:eY):gX:=⟨177,GU,[],[],fun x y=>q.q244 x.1 x.2.1 x.2.2.1 x.2.2.2.1 x.2.2.2.2.1⟩
def ak2 (q:eY):gX:=⟨177,GU,[],[],fun x y=>q.q296 x.1 x.2.1 x.2.2.1 x.2.2.2.1 x.2.2.2.2.1⟩
def ak4 (q:eY):gX:=⟨177,GU,[],[],fun x y=>q.q324 x.1 x.2.1 x.2.2.1 x.2.2.2.1 x.2.2.2.2.1⟩
def ak6 (q:eY):gX:=⟨177,GU,[],[],fun x y=>q.q349 x.1 x.2.1 x.2.2.1 x.2.2.2.1 x.2.2.2.2.1⟩
def abO (q:eY):gX:=⟨177,GU,[],[],fun x y=>q.q346 x.1 x.2.1 x.2.2.1 x.2.2.2.1 x.2.2.2.2.1⟩
def Gz (q:eY):gX:=⟨177,GU,[],[],fun x y=>q.q372 x.1 x.2.1 x.2.2.1 x.2.2.2.1 x.2.2.2.2.1⟩
def ak9 (q:eY):gX:=⟨177,GU,[],[],fun x y=>q.q359 x.1 x.2.1 x.2.2.1 x.2.2.2.1 x.2.2.2.2.1⟩
def ala (q:eY):gX:=⟨177,GU,[],[],fun x y=>q.q360 x.1 x.2.1 x.2.2.1 x.2.2.2.1 x.2.2.2.2.1⟩
def alb (q:eY):gX:=⟨177,GU,[],[],fun x y=>q.q361 x.1 x.2.1 x.2.2.1 x.2.2.2.1 x.2.2.2.2.1⟩
def alc (q:eY):gX:=⟨177,GU,[],[],fun x y=>q.q362 x.1 x.2.1 x.2.2.1 x.2.2.2.1 x.2.2.2.2.1⟩
def ald (q:eY):gX:=⟨177,GU,[],[],fun x y=>q.q363 x.1 x.2.1 x.2.2.1 x.2.2.2.1 x.2.2.2.2.1⟩
def ale (q:eY):gX:=⟨177,GU,[],[],fun x y=>q.q364 x.1 x.2.1 x.2.2.1 x.2.2.2.1 x.2.2.2.2.1⟩
def alf (q:eY):gX:=⟨177,GU,[],[],fun x y=>q.q374 x.1 x.2.1 x.2.2.1 x.2.2.2.1 x.2.2.2.2.1⟩
def abR (q:eY):gX:=⟨177,GU,[],[],fun x y=>q.q373 x.1 x.2.1 x.2.2.1 x.2.2.2.1 x.2.2.2.2.1⟩
noncomputable def aBk:Code:=(f186.body).getD .skip
noncomputable def aqr:Code:=cA (cA (cB (cA (aBk))))
def asY:dZ:=⟨[0,100000],[],[],[],[],[]⟩
def axy:dZ:=⟨[0],[],[],[],[],[]⟩
def ada:dZ:=⟨[0,2,6,7],[],[],[],[],[]⟩
def YZ:SQ:=⟨us [.ptr 0 0] 15,[[.ptr 0 0]],[.box 0 177 [.v oU,.v dD,.slc 1,.v dD,.v dD],.arr 1 pg]⟩
def ZH:SQ:=⟨us [] 16,[[.ptr 0 0]],[.box 0 177 [.v oU,.v dD,.slc 1,.v dD,.v dD],.arr 1 pg]⟩
def aas:SQ:=⟨us [] 16,[[.ptr 0 0]],[]⟩
def PY (q:eY) {γ:Type} (rec kE:(List gU)->Int->Int->Int->(List gI)->Option γ) (kR:Option γ) (v0:List gU) (v1 v2 v3:Int) (v4:List gI):Option γ:=bif(bW 3 3)then bif(bW v1 v1)then bif(bW v2 v2)then bif(eQ (cu v4 [(3,(v1,(0,(v2,()))))]) 32)then bif(bW 3 3)then bif(bW v1 v1)then bif(bW v2 v2)then bif((bW 3 3)&&((bW v1 v1)&&((bW 0 0)&&((bW v2 v2)&&true))))then bM (q.q244 v0 v1 (cu v4 [(3,(v1,(0,(v2,()))))]) (bP v4) v3) fun y0=>bif(gV y0.1.2.2.1 (bP v4))then bif(oD (dG (bP v4)) y0.1.2.2.1)then bM (lI y0.1.1 y0.1.2.1 (iH y0.1.2.2.1 (dG (bP v4)) ((dL y0.1.2.2.1 (0,(0,(0,(0,())))) (dG (bP v4))).1,((dL y0.1.2.2.1 (0,(0,(0,(0,())))) (dG (bP v4))).2.1,(y0.1.2.1,((dL y0.1.2.2.1 (0,(0,(0,(0,())))) (dG (bP v4))).2.2.2.1,()))))) v2 y0.1.2.2.2.2.1 [59,38]) fun y1=>bif y1.2.1 then bM (pJ y1.1.1 y1.1.2.1 y1.1.2.2.1 y1.1.2.2.2.1 y1.1.2.2.2.2.1) fun y2=>bM (JA y2.1.1 y2.1.2.1 y2.1.2.2.1 y2.1.2.2.2.1 y2.1.2.2.2.2.1) fun y3=>bif(!y3.2.1)then kE y3.1.1 y3.1.2.1 y3.1.2.2.2.1 y3.1.2.2.2.2.1 y3.1.2.2.1 else rec y3.1.1 y3.1.2.1 y3.1.2.2.2.1 y3.1.2.2.2.2.1 y3.1.2.2.1 else bM (pJ y1.1.1 y1.1.2.1 y1.1.2.2.1 y1.1.2.2.2.1 y1.1.2.2.2.2.1) fun y2=>bif(!y2.2.1)then kE y2.1.1 y2.1.2.1 y2.1.2.2.2.1 y2.1.2.2.2.2.1 y2.1.2.2.1 else bM (JA y2.1.1 y2.1.2.1 y2.1.2.2.1 y2.1.2.2.2.1 y2.1.2.2.2.2.1) fun y3=>bif(!y3.2.1)then kE y3.1.1 y3.1.2.1 y3.1.2.2.2.1 y3.1.2.2.2.2.1 y3.1.2.2.1 else rec y3.1.1 y3.1.2.1 y3.1.2.2.2.1 y3.1.2.2.2.2.1 y3.1.2.2.1 else none else none else none else none else none else none else none else none else none else none
def yj (q:eY):Nat->(List gU)->Int->Int->Int->(List gI)->Option (ZH.den⊕aas.den)
 |0,_,_,_,_,_=>none
 |n+1,v0,v1,v2,v3,v4=>PY q (yj q n) (fun e0 e1 e2 e3 e4=>some (.inl ((),((),()),((e0,e1,e2,e3,()),e4,())))) (some (.inr ((),((),()),()))) v0 v1 v2 v3 v4
def ayf (q:eY) (n:Nat) (v:YZ.den):=yj q n v.2.2.1.1 v.2.2.1.2.1 v.2.2.1.2.2.1 v.2.2.1.2.2.2.1 v.2.2.2.1
noncomputable def ai8 (q:eY):dI:=fU asY YZ ZH aas (.exit 0) (ayf q bU) 6
def arT (q:eY) (x0:List gU) (x1:Int) (x2:List gI) (x3 x4:Int):Option Bl:=bM (yj q bU x0 x1 x3 x4 x2) fun y0=>dV y0 (fun a1=>some ((a1.2.2.1.1,(a1.2.2.1.2.1,(a1.2.2.2.1,(a1.2.2.1.2.2.1,(a1.2.2.1.2.2.2.1,()))))),())) (fun b1=>none)
noncomputable def afn (q:eY):Env:=ed prog tt [] [(186,0,asY),(186,600000,axy),(119,600003,ada)] [(186,0,ai8 q)] [] [(184,sN),(185,NC),(244,ak0 q),(245,CW)]
def akn (q:eY) {γ:Type} (a:YZ.den->Option γ) (b:ZH.den->Option γ) (c:aas.den->Option γ) (v:YZ.den):Option γ:=PY q (fun v0 v1 v2 v3 v4=>a ((),((),()),((v0,v1,v2,v3,()),v4,()))) (fun e0 e1 e2 e3 e4=>b ((),((),()),((e0,e1,e2,e3,()),e4,()))) (c ((),((),()),())) v.2.2.1.1 v.2.2.1.2.1 v.2.2.1.2.2.1 v.2.2.1.2.2.2.1 v.2.2.2.1
theorem ay5 (q:eY):dX (afn q) 186 aqr (ai8 q):=lK (akn q) (h2:=by intros;simp only[akn,PY,dm,dn,bK,cZ,dw])
theorem aDL (q:eY):dU (afn q) 186 aBk:=qj [aqr] (aD (fM (ay5 q)) aN)
abbrev GL (q:eY):Prop:=eF prog 186 (abH q)/\eF prog 244 (ak0 q)/\eF prog 296 (ak2 q)/\eF prog 324 (ak4 q)/\eF prog 349 (ak6 q)/\eF prog 346 (abO q)/\eF prog 372 (Gz q)/\eF prog 359 (ak9 q)/\eF prog 360 (ala q)/\eF prog 361 (alb q)/\eF prog 362 (alc q)/\eF prog 363 (ald q)/\eF prog 364 (ale q)/\eF prog 374 (alf q)/\eF prog 373 (abR q)
theorem amc (q:eY) (H:GL q):dK (afn q):=eB aN [186] (aD ⟨f186,aBk,by kernel_rfl,by kernel_rfl,aDL q⟩ aN) (hx:=(aD kQ (aD Bc (aD H.2.1 (aD qJ aN)))))
noncomputable def aBn:Code:=(f244.body).getD .skip
noncomputable def aqy:Code:=cA (cA (cB (aBn)))
def as6:dZ:=⟨[0,100001],[],[],[],[],[]⟩
def Y6:SQ:=⟨us [.ptr 0 0] 9,[[.ptr 0 0]],[.box 0 177 [.v oU,.v dD,.slc 1,.v dD,.v dD],.arr 1 pg]⟩
def ZO:SQ:=⟨us [] 10,[[.ptr 0 0]],[.box 0 177 [.v oU,.v dD,.slc 1,.v dD,.v dD],.arr 1 pg]⟩
def aaz:SQ:=⟨us [] 10,[[.ptr 0 0]],[]⟩
def P7 (q:eY) {γ:Type} (rec kE:(List gU)->Int->Int->Int->(List gI)->Option γ) (kR:Option γ) (v0:List gU) (v1 v2 v3:Int) (v4:List gI):Option γ:=bM (lI v0 v1 v4 v2 v3 [97,111]) fun y0=>bif y0.2.1 then bM (pJ y0.1.1 y0.1.2.1 y0.1.2.2.1 y0.1.2.2.2.1 y0.1.2.2.2.2.1) fun y1=>bM (q.q296 y1.1.1 y1.1.2.1 y1.1.2.2.1 y1.1.2.2.2.1 y1.1.2.2.2.2.1) fun y2=>rec y2.1.1 y2.1.2.1 y2.1.2.2.2.1 y2.1.2.2.2.2.1 y2.1.2.2.1 else kE y0.1.1 y0.1.2.1 y0.1.2.2.2.1 y0.1.2.2.2.2.1 y0.1.2.2.1
def JV (q:eY):Nat->(List gU)->Int->Int->Int->(List gI)->Option (ZO.den⊕aaz.den)
 |0,_,_,_,_,_=>none
 |n+1,v0,v1,v2,v3,v4=>P7 q (JV q n) (fun e0 e1 e2 e3 e4=>some (.inl ((),((),()),((e0,e1,e2,e3,()),e4,())))) (some (.inr ((),((),()),()))) v0 v1 v2 v3 v4
def aym (q:eY) (n:Nat) (v:Y6.den):=JV q n v.2.2.1.1 v.2.2.1.2.1 v.2.2.1.2.2.1 v.2.2.1.2.2.2.1 v.2.2.2.1
noncomputable def ajf (q:eY):dI:=fU as6 Y6 ZO aaz (.exit 0) (aym q bU) 6
def arV (q:eY) (x0:List gU) (x1:Int) (x2:List gI) (x3 x4:Int):Option Bl:=bM (q.q296 x0 x1 x2 x3 x4) fun y0=>bM (JV q bU y0.1.1 y0.1.2.1 y0.1.2.2.2.1 y0.1.2.2.2.2.1 y0.1.2.2.1) fun y1=>dV y1 (fun a2=>some ((a2.2.2.1.1,(a2.2.2.1.2.1,(a2.2.2.2.1,(a2.2.2.1.2.2.1,(a2.2.2.1.2.2.2.1,()))))),())) (fun b2=>none)
noncomputable def aft (q:eY):Env:=ed prog tt [] [(244,1,as6)] [(244,1,ajf q)] [] [(184,sN),(245,CW),(296,ak2 q)]
def aku (q:eY) {γ:Type} (a:Y6.den->Option γ) (b:ZO.den->Option γ) (c:aaz.den->Option γ) (v:Y6.den):Option γ:=P7 q (fun v0 v1 v2 v3 v4=>a ((),((),()),((v0,v1,v2,v3,()),v4,()))) (fun e0 e1 e2 e3 e4=>b ((),((),()),((e0,e1,e2,e3,()),e4,()))) (c ((),((),()),())) v.2.2.1.1 v.2.2.1.2.1 v.2.2.1.2.2.1 v.2.2.1.2.2.2.1 v.2.2.2.1
theorem azc (q:eY):dX (aft q) 244 aqy (ajf q):=lK (aku q) (h2:=by intros;simp only[aku,P7,dm,dn,bK,cZ,dw])
theorem aDR (q:eY):dU (aft q) 244 aBn:=qj [aqy] (aD (fM (azc q)) aN)
theorem amH (q:eY) (H:GL q):dK (aft q):=eB aN [244] (aD ⟨f244,aBn,by kernel_rfl,by kernel_rfl,aDR q⟩ aN) (hx:=(aD kQ (aD qJ (aD H.2.2.1 aN))))
noncomputable def QI:Code:=(f323.body).getD .skip
noncomputable def QU:Code:=cA (cA (cB (cB (QI))))
def Sl:dZ:=⟨[0,324000002],[],[],[],[],[]⟩
def axJ:dZ:=⟨[1],[],[],[],[],[]⟩
def adm:dZ:=⟨[0,2,6,7],[],[],[],[],[]⟩
def Cf:SQ:=⟨us [.ptr 1000001 0] 10,[us [.ptr 0 0,.u,.fn 323 [(1000001,0)],.u,.u,.u,.v dD,.v dD,.u,.u,.u,.u,.u,.u,.u,.u,.u,.u,.u,.u,.u,.u,.u,.u,.u,.u,.u,.u,.u,.u,.u,.u,.u,.u,.u,.u,.u,.fn 323 [(1000001,0)]] 16,[.u,.ptr 1000001 0,.u,.u,.u,.u,.u,.ptr 0 0,.fn 323 [(1000001,0)],.u],[.ptr 0 0]],[.box 1000001 175 [.ptr 0 0],.box 0 177 [.v oU,.v dD,.slc 1,.v dD,.v dD],.arr 1 pg]⟩
def Eu:SQ:=⟨us [] 11,[us [.ptr 0 0,.u,.fn 323 [(1000001,0)],.u,.u,.u,.v dD,.v dD,.u,.u,.u,.u,.u,.u,.u,.u,.u,.u,.u,.u,.u,.u,.u,.u,.u,.u,.u,.u,.u,.u,.u,.u,.u,.u,.u,.u,.u,.fn 323 [(1000001,0)]] 16,[.u,.ptr 1000001 0,.u,.u,.u,.u,.u,.ptr 0 0,.fn 323 [(1000001,0)],.u],[.ptr 0 0]],[.box 1000001 175 [.ptr 0 0],.box 0 177 [.v oU,.v dD,.slc 1,.v dD,.v dD],.arr 1 pg]⟩
def EG:SQ:=⟨us [] 11,[us [.ptr 0 0,.u,.fn 323 [(1000001,0)],.u,.u,.u,.v dD,.v dD,.u,.u,.u,.u,.u,.u,.u,.u,.u,.u,.u,.u,.u,.u,.u,.u,.u,.u,.u,.u,.u,.u,.u,.u,.u,.u,.u,.u,.u,.fn 323 [(1000001,0)]] 16,[.u,.ptr 1000001 0,.u,.u,.u,.u,.u,.ptr 0 0,.fn 323 [(1000001,0)],.u],[.ptr 0 0]],[]⟩
def yL (q:eY) {γ:Type} (rec kE:Int->Int->(List gU)->Int->Int->Int->(List gI)->Option γ) (kR:Int->Int->Option γ) (v0 v1:Int) (v2:List gU) (v3 v4 v5:Int) (v6:List gI):Option γ:=bM (lI v2 v3 v6 v4 v5 [124]) fun y0=>bif y0.2.1 then bM (pJ y0.1.1 y0.1.2.1 y0.1.2.2.1 y0.1.2.2.2.1 y0.1.2.2.2.2.1) fun y1=>bM (q.q324 y1.1.1 y1.1.2.1 y1.1.2.2.1 y1.1.2.2.2.1 y1.1.2.2.2.2.1) fun y2=>rec v0 v1 y2.1.1 y2.1.2.1 y2.1.2.2.2.1 y2.1.2.2.2.2.1 y2.1.2.2.1 else kE v0 v1 y0.1.1 y0.1.2.1 y0.1.2.2.2.1 y0.1.2.2.2.2.1 y0.1.2.2.1
def uD (q:eY):Nat->Int->Int->(List gU)->Int->Int->Int->(List gI)->Option (Eu.den⊕EG.den)
 |0,_,_,_,_,_,_,_=>none
 |n+1,v0,v1,v2,v3,v4,v5,v6=>yL q (uD q n) (fun e0 e1 e2 e3 e4 e5 e6=>some (.inl ((),((e0,e1,()),(),(),()),((),(e2,e3,e4,e5,()),e6,())))) (fun r0 r1=>some (.inr ((),((r0,r1,()),(),(),()),()))) v0 v1 v2 v3 v4 v5 v6
def adQ (q:eY) (n:Nat) (v:Cf.den):=uD q n v.2.1.1.1 v.2.1.1.2.1 v.2.2.2.1.1 v.2.2.2.1.2.1 v.2.2.2.1.2.2.1 v.2.2.2.1.2.2.2.1 v.2.2.2.2.1
noncomputable def Ot (q:eY):dI:=fU Sl Cf Eu EG (.exit 0) (adQ q bU) 6
def acu (q:eY) (x0:List gU) (x1:Int) (x2:List gI) (x3 x4:Int):Option Bl:=bM (JA x0 x1 x2 x3 x4) fun y0=>bif(!y0.2.1)then bM (xY y0.1.1 y0.1.2.1 y0.1.2.2.1 y0.1.2.2.2.1 y0.1.2.2.2.2.1) fun y1=>some ((y1.1.1,(y1.1.2.1,(y1.1.2.2.1,(y1.1.2.2.2.1,(y1.1.2.2.2.2.1,()))))),())else bif(bW 4 4)then bif(bW y0.1.2.1 y0.1.2.1)then bif(bW y0.1.2.2.2.1 y0.1.2.2.2.1)then bif(eQ (cu y0.1.2.2.1 [(4,(y0.1.2.1,(0,(y0.1.2.2.2.1,()))))]) 32)then bif(bW 4 4)then bif(bW y0.1.2.1 y0.1.2.1)then bif(bW y0.1.2.2.2.1 y0.1.2.2.2.1)then bif((bW 4 4)&&((bW y0.1.2.1 y0.1.2.1)&&((bW 0 0)&&((bW y0.1.2.2.2.1 y0.1.2.2.2.1)&&true))))then bM (lI y0.1.1 y0.1.2.1 (cu y0.1.2.2.1 [(4,(y0.1.2.1,(0,(y0.1.2.2.2.1,()))))]) (bP y0.1.2.2.1) y0.1.2.2.2.2.1 [33]) fun y1=>bM (q.q324 y1.1.1 y1.1.2.1 y1.1.2.2.1 y1.1.2.2.2.1 y1.1.2.2.2.2.1) fun y2=>bM (uD q bU (bP y0.1.2.2.1) y0.1.2.2.2.1 y2.1.1 y2.1.2.1 y2.1.2.2.2.1 y2.1.2.2.2.2.1 y2.1.2.2.1) fun y3=>dV y3 (fun a4=>bif(gV a4.2.2.2.2.1 a4.2.1.1.1)then bif(oD (dG a4.2.1.1.1) a4.2.2.2.2.1)then some ((a4.2.2.2.1.1,(a4.2.2.2.1.2.1,((iH a4.2.2.2.2.1 (dG a4.2.1.1.1) ((dL a4.2.2.2.2.1 (0,(0,(0,(0,())))) (dG a4.2.1.1.1)).1,((dL a4.2.2.2.2.1 (0,(0,(0,(0,())))) (dG a4.2.1.1.1)).2.1,(a4.2.2.2.1.2.1,((dL a4.2.2.2.2.1 (0,(0,(0,(0,())))) (dG a4.2.1.1.1)).2.2.2.1,()))))),(a4.2.1.1.2.1,(a4.2.2.2.1.2.2.2.1,()))))),())else none else none) (fun b4=>none)else none else none else none else none else none else none else none else none
noncomputable def afC (q:eY):Env:=ed prog tt [] [(323,2,Sl),(296,600003,axJ),(119,600003,adm)] [(323,2,Ot q)] [] [(184,sN),(185,NC),(245,CW),(322,EQ),(324,ak4 q)]
def OU (q:eY) {γ:Type} (a:Cf.den->Option γ) (b:Eu.den->Option γ) (c:EG.den->Option γ) (v:Cf.den):Option γ:=yL q (fun v0 v1 v2 v3 v4 v5 v6=>a ((),((v0,v1,()),(),(),()),((),(v2,v3,v4,v5,()),v6,()))) (fun e0 e1 e2 e3 e4 e5 e6=>b ((),((e0,e1,()),(),(),()),((),(e2,e3,e4,e5,()),e6,()))) (fun r0 r1=>c ((),((r0,r1,()),(),(),()),())) v.2.1.1.1 v.2.1.1.2.1 v.2.2.2.1.1 v.2.2.2.1.2.1 v.2.2.2.1.2.2.1 v.2.2.2.1.2.2.2.1 v.2.2.2.2.1
theorem aef (q:eY):dX (afC q) 323 QU (Ot q):=lK (OU q) (h2:=by intros;simp only[OU,yL,dm,dn,bK,cZ,dw])
theorem agv (q:eY):dU (afC q) 323 QI:=qj [QU] (aD (fM (aef q)) aN)
theorem anb (q:eY) (H:GL q):dK (afC q):=eB aN [323] (aD ⟨f323,QI,by kernel_rfl,by kernel_rfl,agv q⟩ aN) (hx:=(aD kQ (aD Bc (aD qJ (aD sS (aD H.2.2.2.1 aN))))))
def axL:dZ:=⟨[0],[],[],[],[],[]⟩
def axM:dZ:=⟨[0],[],[],[],[],[]⟩
def ado:dZ:=⟨[0,2,6,7],[],[],[],[],[]⟩
def adp:dZ:=⟨[0,1,2],[],[],[],[],[]⟩
def arY (q:eY) (x0:List gU) (x1:Int) (x2:List gI) (x3 x4:Int):Option Bl:=bM (VQ x0 x1 x2 x3 x4) fun y0=>bif y0.2.1 then bM (q.q346 y0.1.1 y0.1.2.1 y0.1.2.2.1 y0.1.2.2.2.1 y0.1.2.2.2.2.1) fun y1=>some ((y1.1.1,(y1.1.2.1,(y1.1.2.2.1,(y1.1.2.2.2.1,(y1.1.2.2.2.2.1,()))))),())else bM (aiE y0.1.1 y0.1.2.1 y0.1.2.2.1 y0.1.2.2.2.1 y0.1.2.2.2.2.1) fun y1=>bif y1.2.1 then bif(bW 16 16)then bif(bW y1.1.2.1 y1.1.2.1)then bif(bW y1.1.2.2.2.1 y1.1.2.2.2.1)then bif(eQ (cu y1.1.2.2.1 [(16,(y1.1.2.1,(0,(y1.1.2.2.2.1,()))))]) 32)then bif(bW 16 16)then bif(bW y1.1.2.1 y1.1.2.1)then bif(bW y1.1.2.2.2.1 y1.1.2.2.2.1)then bif((bW 16 16)&&((bW y1.1.2.1 y1.1.2.1)&&((bW 0 0)&&((bW y1.1.2.2.2.1 y1.1.2.2.2.1)&&true))))then bM (q.q349 y1.1.1 y1.1.2.1 (cu y1.1.2.2.1 [(16,(y1.1.2.1,(0,(y1.1.2.2.2.1,()))))]) (bP y1.1.2.2.1) (dA .i64 y1.1.2.2.2.2.1 1)) fun y2=>bif(gV y2.1.2.2.1 (bP y1.1.2.2.1))then bif(oD (dG (bP y1.1.2.2.1)) y2.1.2.2.1)then some ((y2.1.1,(y2.1.2.1,((iH y2.1.2.2.1 (dG (bP y1.1.2.2.1)) ((dL y2.1.2.2.1 (0,(0,(0,(0,())))) (dG (bP y1.1.2.2.1))).1,((dL y2.1.2.2.1 (0,(0,(0,(0,())))) (dG (bP y1.1.2.2.1))).2.1,(y2.1.2.1,((dL y2.1.2.2.1 (0,(0,(0,(0,())))) (dG (bP y1.1.2.2.1))).2.2.2.1,()))))),(y1.1.2.2.2.1,((eG .i64 y2.1.2.2.2.2.1 1),()))))),())else none else none else none else none else none else none else none else none else none else none else bM (acG y1.1.1 y1.1.2.1 y1.1.2.2.1 y1.1.2.2.2.1 y1.1.2.2.2.2.1) fun y2=>bif y2.2.1 then bif(bW 5 5)then bif(bW y2.1.2.1 y2.1.2.1)then bif(bW y2.1.2.2.2.1 y2.1.2.2.2.1)then bif(eQ (cu y2.1.2.2.1 [(5,(y2.1.2.1,(0,(y2.1.2.2.2.1,()))))]) 32)then bif(bW 5 5)then bif(bW y2.1.2.1 y2.1.2.1)then bif(bW y2.1.2.2.2.1 y2.1.2.2.2.1)then bif((bW 5 5)&&((bW y2.1.2.1 y2.1.2.1)&&((bW 0 0)&&((bW y2.1.2.2.2.1 y2.1.2.2.2.1)&&true))))then bM (aiF y2.1.1 y2.1.2.1 (cu y2.1.2.2.1 [(5,(y2.1.2.1,(0,(y2.1.2.2.2.1,()))))]) (bP y2.1.2.2.1) y2.1.2.2.2.2.1) fun y3=>bif(gV y3.1.2.2.1 (bP y2.1.2.2.1))then bif(oD (dG (bP y2.1.2.2.1)) y3.1.2.2.1)then some ((y3.1.1,(y3.1.2.1,((iH y3.1.2.2.1 (dG (bP y2.1.2.2.1)) ((dL y3.1.2.2.1 (0,(0,(0,(0,())))) (dG (bP y2.1.2.2.1))).1,((dL y3.1.2.2.1 (0,(0,(0,(0,())))) (dG (bP y2.1.2.2.1))).2.1,(y3.1.2.1,((dL y3.1.2.2.1 (0,(0,(0,(0,())))) (dG (bP y2.1.2.2.1))).2.2.2.1,()))))),(y2.1.2.2.2.1,(y3.1.2.2.2.2.1,()))))),())else none else none else none else none else none else none else none else none else none else none else bM (xY y2.1.1 y2.1.2.1 y2.1.2.2.1 y2.1.2.2.2.1 y2.1.2.2.2.2.1) fun y3=>some ((y3.1.1,(y3.1.2.1,(y3.1.2.2.1,(y3.1.2.2.2.1,(y3.1.2.2.2.2.1,()))))),())
noncomputable def aCO (q:eY):Env:=ed prog tt [] [(324,600004,axL),(324,600006,axM),(119,600003,ado),(348,600001,adp)] [] [] [(243,ahp),(295,abN),(322,EQ),(346,abO q),(347,awe),(349,ak6 q),(350,awf)]
theorem anp (q:eY) (H:GL q):dK (aCO q):=eB aN [] aN (hx:=(aD WP (aD NJ (aD sS (aD H.2.2.2.2.2.1 (aD apI (aD H.2.2.2.2.1 (aD apJ aN))))))))
def arZ (q:eY) (x0:List gU) (x1:Int) (x2:List gI) (x3 x4:Int):Option Bl:=bM (N7 x0 x1 x2 x3 x4) fun y0=>bM (lI y0.1.1 y0.1.2.1 y0.1.2.2.1 y0.1.2.2.2.1 y0.1.2.2.2.2.1 [40]) fun y1=>bM (rJ y1.1.1 y1.1.2.1 y1.1.2.2.1 y1.1.2.2.2.1 y1.1.2.2.2.2.1 [41]) fun y2=>bM (pJ y2.1.1 y2.1.2.1 y2.1.2.2.1 y2.1.2.2.2.1 y2.1.2.2.2.2.1) fun y3=>bM (VQ y3.1.1 y3.1.2.1 y3.1.2.2.1 y3.1.2.2.2.1 y3.1.2.2.2.2.1) fun y4=>bif y4.2.1 then bM (q.q346 y4.1.1 y4.1.2.1 y4.1.2.2.1 y4.1.2.2.2.1 y4.1.2.2.2.2.1) fun y5=>some ((y5.1.1,(y5.1.2.1,(y5.1.2.2.1,(y5.1.2.2.2.1,(y5.1.2.2.2.2.1,()))))),())else bM (xY y4.1.1 y4.1.2.1 y4.1.2.2.1 y4.1.2.2.2.1 y4.1.2.2.2.2.1) fun y5=>some ((y5.1.1,(y5.1.2.1,(y5.1.2.2.1,(y5.1.2.2.2.1,(y5.1.2.2.2.2.1,()))))),())
noncomputable def aCU (q:eY):Env:=ed prog tt [] [] [] [] [(184,sN),(245,CW),(295,abN),(322,EQ),(346,abO q),(367,Um),(368,ER)]
theorem anC (q:eY) (H:GL q):dK (aCU q):=eB aN [] aN (hx:=(aD kQ (aD qJ (aD NJ (aD sS (aD H.2.2.2.2.2.1 (aD Gx (aD sU aN))))))))
noncomputable def QJ:Code:=(f365.body).getD .skip
noncomputable def og:Code:=cA (cA (cB (cB (QJ))))
def qi:dZ:=⟨[0,366000002],[],[],[],[],[]⟩
def atz:dZ:=⟨[1,2,3],[],[],[],[],[]⟩
def adr:dZ:=⟨[0,1,2],[],[],[],[],[]⟩
def adq:dZ:=⟨[0,2,6,7],[],[],[],[],[]⟩
def ads:dZ:=⟨[0,1],[],[],[],[],[]⟩
def Ci:SQ:=⟨us [.ptr 1000001 0] 12,[us [.ptr 0 0,.u,.fn 365 [(1000001,0),(2000003,0)],.u,.u,.u,.v dD,.v dD,.u,.u,.u,.u,.u,.u,.u,.u,.u,.u,.u,.u,.u,.u,.u,.u,.u,.u,.u,.u,.u,.u,.u,.u,.u,.u,.u,.u,.u,.fn 365 [(1000001,0),(2000003,0)]] 16,us [.ptr 0 0,.v dD,.fn 365 [(1000001,0),(2000003,0)],.u,.u,.u,.u,.u,.u,.u,.u,.u,.u,.ptr 0 0,.v dD,.fn 365 [(1000001,0),(2000003,0)]] 8,[.u,.ptr 1000001 0,.v dD,.ptr 2000003 0,.u,.u,.u,.u,.u,.u,.u,.u,.u,.u,.u,.u,.u,.u,.u,.u,.u,.u,.u,.u,.u,.u,.u,.u,.ptr 0 0,.v dD,.fn 365 [(1000001,0),(2000003,0)],.u],[.ptr 0 0]],[.box 2000003 1 [.mfn 360 [(0,0)]],.box 1000001 175 [.ptr 0 0],.arr 1 pg,.box 0 177 [.v oU,.v dD,.slc 1,.v dD,.v dD]]⟩
def Ew:SQ:=⟨us [] 13,[us [.ptr 0 0,.u,.fn 365 [(1000001,0),(2000003,0)],.u,.u,.u,.v dD,.v dD,.u,.u,.u,.u,.u,.u,.u,.u,.u,.u,.u,.u,.u,.u,.u,.u,.u,.u,.u,.u,.u,.u,.u,.u,.u,.u,.u,.u,.u,.fn 365 [(1000001,0),(2000003,0)]] 16,us [.ptr 0 0,.v dD,.fn 365 [(1000001,0),(2000003,0)],.u,.u,.u,.u,.u,.u,.u,.u,.u,.u,.ptr 0 0,.v dD,.fn 365 [(1000001,0),(2000003,0)]] 8,[.u,.ptr 1000001 0,.v dD,.ptr 2000003 0,.u,.u,.u,.u,.u,.u,.u,.u,.u,.u,.u,.u,.u,.u,.u,.u,.u,.u,.u,.u,.u,.u,.u,.u,.ptr 0 0,.v dD,.fn 365 [(1000001,0),(2000003,0)],.u],[.ptr 0 0]],[.box 2000003 1 [.mfn 360 [(0,0)]],.box 1000001 175 [.ptr 0 0],.arr 1 pg,.box 0 177 [.v oU,.v dD,.slc 1,.v dD,.v dD]]⟩
def EH:SQ:=⟨us [] 13,[us [.ptr 0 0,.u,.fn 365 [(1000001,0),(2000003,0)],.u,.u,.u,.v dD,.v dD,.u,.u,.u,.u,.u,.u,.u,.u,.u,.u,.u,.u,.u,.u,.u,.u,.u,.u,.u,.u,.u,.u,.u,.u,.u,.u,.u,.u,.u,.fn 365 [(1000001,0),(2000003,0)]] 16,us [.ptr 0 0,.v dD,.fn 365 [(1000001,0),(2000003,0)],.u,.u,.u,.u,.u,.u,.u,.u,.u,.u,.ptr 0 0,.v dD,.fn 365 [(1000001,0),(2000003,0)]] 8,[.u,.ptr 1000001 0,.v dD,.ptr 2000003 0,.u,.u,.u,.u,.u,.u,.u,.u,.u,.u,.u,.u,.u,.u,.u,.u,.u,.u,.u,.u,.u,.u,.u,.u,.ptr 0 0,.v dD,.fn 365 [(1000001,0),(2000003,0)],.u],[.ptr 0 0]],[]⟩
def uJ (q:eY) {γ:Type} (rec kE:Int->Int->Int->Int->Int->Int->(List gI)->(List gU)->Int->Int->Int->Option γ) (kR:Int->Int->Int->Int->Int->Int->Option γ) (v0 v1 v2 v3 v4 v5:Int) (v6:List gI) (v7:List gU) (v8 v9 v10:Int):Option γ:=bM (Af v7 v8 v6 v9 v10) fun y0=>bif y0.2.1 then rec v0 v1 v2 v3 v4 v5 y0.1.2.2.1 y0.1.1 y0.1.2.1 y0.1.2.2.2.1 y0.1.2.2.2.2.1 else kE v0 v1 v2 v3 v4 v5 y0.1.2.2.1 y0.1.1 y0.1.2.1 y0.1.2.2.2.1 y0.1.2.2.2.2.1
def oq (q:eY):Nat->Int->Int->Int->Int->Int->Int->(List gI)->(List gU)->Int->Int->Int->Option (Ew.den⊕EH.den)
 |0,_,_,_,_,_,_,_,_,_,_,_=>none
 |n+1,v0,v1,v2,v3,v4,v5,v6,v7,v8,v9,v10=>uJ q (oq q n) (fun e0 e1 e2 e3 e4 e5 e6 e7 e8 e9 e10=>some (.inl ((),((e0,e1,()),(e2,e3,()),(e4,e5,()),(),()),((),(),e6,(e7,e8,e9,e10,()),())))) (fun r0 r1 r2 r3 r4 r5=>some (.inr ((),((r0,r1,()),(r2,r3,()),(r4,r5,()),(),()),()))) v0 v1 v2 v3 v4 v5 v6 v7 v8 v9 v10
def adR (q:eY) (n:Nat) (v:Ci.den):=oq q n v.2.1.1.1 v.2.1.1.2.1 v.2.1.2.1.1 v.2.1.2.1.2.1 v.2.1.2.2.1.1 v.2.1.2.2.1.2.1 v.2.2.2.2.1 v.2.2.2.2.2.1.1 v.2.2.2.2.2.1.2.1 v.2.2.2.2.2.1.2.2.1 v.2.2.2.2.2.1.2.2.2.1
noncomputable def D9 (q:eY):dI:=fU qi Ci Ew EH (.exit 0) (adR q bU) 6
def vM:SQ:=⟨us [.ptr 1000001 0] 12,[us [.ptr 0 0,.u,.fn 365 [(1000001,0),(2000003,0)],.u,.u,.u,.v dD,.v dD,.u,.u,.u,.u,.u,.u,.u,.u,.u,.u,.u,.u,.u,.u,.u,.u,.u,.u,.u,.u,.u,.u,.u,.u,.u,.u,.u,.u,.u,.fn 365 [(1000001,0),(2000003,0)]] 16,us [.ptr 0 0,.v dD,.fn 365 [(1000001,0),(2000003,0)],.u,.u,.u,.u,.u,.u,.u,.u,.u,.u,.ptr 0 0,.v dD,.fn 365 [(1000001,0),(2000003,0)]] 8,[.u,.ptr 1000001 0,.v dD,.ptr 2000003 0,.u,.u,.u,.u,.u,.u,.u,.u,.u,.u,.u,.u,.u,.u,.u,.u,.u,.u,.u,.u,.u,.u,.u,.u,.ptr 0 0,.v dD,.fn 365 [(1000001,0),(2000003,0)],.u],[.ptr 0 0]],[.box 2000003 1 [.mfn 361 [(0,0)]],.box 1000001 175 [.ptr 0 0],.arr 1 pg,.box 0 177 [.v oU,.v dD,.slc 1,.v dD,.v dD]]⟩
def zh:SQ:=⟨us [] 13,[us [.ptr 0 0,.u,.fn 365 [(1000001,0),(2000003,0)],.u,.u,.u,.v dD,.v dD,.u,.u,.u,.u,.u,.u,.u,.u,.u,.u,.u,.u,.u,.u,.u,.u,.u,.u,.u,.u,.u,.u,.u,.u,.u,.u,.u,.u,.u,.fn 365 [(1000001,0),(2000003,0)]] 16,us [.ptr 0 0,.v dD,.fn 365 [(1000001,0),(2000003,0)],.u,.u,.u,.u,.u,.u,.u,.u,.u,.u,.ptr 0 0,.v dD,.fn 365 [(1000001,0),(2000003,0)]] 8,[.u,.ptr 1000001 0,.v dD,.ptr 2000003 0,.u,.u,.u,.u,.u,.u,.u,.u,.u,.u,.u,.u,.u,.u,.u,.u,.u,.u,.u,.u,.u,.u,.u,.u,.ptr 0 0,.v dD,.fn 365 [(1000001,0),(2000003,0)],.u],[.ptr 0 0]],[.box 2000003 1 [.mfn 361 [(0,0)]],.box 1000001 175 [.ptr 0 0],.arr 1 pg,.box 0 177 [.v oU,.v dD,.slc 1,.v dD,.v dD]]⟩
def zq:SQ:=⟨us [] 13,[us [.ptr 0 0,.u,.fn 365 [(1000001,0),(2000003,0)],.u,.u,.u,.v dD,.v dD,.u,.u,.u,.u,.u,.u,.u,.u,.u,.u,.u,.u,.u,.u,.u,.u,.u,.u,.u,.u,.u,.u,.u,.u,.u,.u,.u,.u,.u,.fn 365 [(1000001,0),(2000003,0)]] 16,us [.ptr 0 0,.v dD,.fn 365 [(1000001,0),(2000003,0)],.u,.u,.u,.u,.u,.u,.u,.u,.u,.u,.ptr 0 0,.v dD,.fn 365 [(1000001,0),(2000003,0)]] 8,[.u,.ptr 1000001 0,.v dD,.ptr 2000003 0,.u,.u,.u,.u,.u,.u,.u,.u,.u,.u,.u,.u,.u,.u,.u,.u,.u,.u,.u,.u,.u,.u,.u,.u,.ptr 0 0,.v dD,.fn 365 [(1000001,0),(2000003,0)],.u],[.ptr 0 0]],[]⟩
def pO (q:eY) {γ:Type} (rec kE:Int->Int->Int->Int->Int->Int->(List gI)->(List gU)->Int->Int->Int->Option γ) (kR:Int->Int->Int->Int->Int->Int->Option γ) (v0 v1 v2 v3 v4 v5:Int) (v6:List gI) (v7:List gU) (v8 v9 v10:Int):Option γ:=bM (Af v7 v8 v6 v9 v10) fun y0=>bif y0.2.1 then rec v0 v1 v2 v3 v4 v5 y0.1.2.2.1 y0.1.1 y0.1.2.1 y0.1.2.2.2.1 y0.1.2.2.2.2.1 else kE v0 v1 v2 v3 v4 v5 y0.1.2.2.1 y0.1.1 y0.1.2.1 y0.1.2.2.2.1 y0.1.2.2.2.2.1
def lq (q:eY):Nat->Int->Int->Int->Int->Int->Int->(List gI)->(List gU)->Int->Int->Int->Option (zh.den⊕zq.den)
 |0,_,_,_,_,_,_,_,_,_,_,_=>none
 |n+1,v0,v1,v2,v3,v4,v5,v6,v7,v8,v9,v10=>pO q (lq q n) (fun e0 e1 e2 e3 e4 e5 e6 e7 e8 e9 e10=>some (.inl ((),((e0,e1,()),(e2,e3,()),(e4,e5,()),(),()),((),(),e6,(e7,e8,e9,e10,()),())))) (fun r0 r1 r2 r3 r4 r5=>some (.inr ((),((r0,r1,()),(r2,r3,()),(r4,r5,()),(),()),()))) v0 v1 v2 v3 v4 v5 v6 v7 v8 v9 v10
def UX (q:eY) (n:Nat) (v:vM.den):=lq q n v.2.1.1.1 v.2.1.1.2.1 v.2.1.2.1.1 v.2.1.2.1.2.1 v.2.1.2.2.1.1 v.2.1.2.2.1.2.1 v.2.2.2.2.1 v.2.2.2.2.2.1.1 v.2.2.2.2.2.1.2.1 v.2.2.2.2.2.1.2.2.1 v.2.2.2.2.2.1.2.2.2.1
noncomputable def yU (q:eY):dI:=fU qi vM zh zq (.exit 0) (UX q bU) 12
def vN:SQ:=⟨us [.ptr 1000001 0] 12,[us [.ptr 0 0,.u,.fn 365 [(1000001,0),(2000003,0)],.u,.u,.u,.v dD,.v dD,.u,.u,.u,.u,.u,.u,.u,.u,.u,.u,.u,.u,.u,.u,.u,.u,.u,.u,.u,.u,.u,.u,.u,.u,.u,.u,.u,.u,.u,.fn 365 [(1000001,0),(2000003,0)]] 16,us [.ptr 0 0,.v dD,.fn 365 [(1000001,0),(2000003,0)],.u,.u,.u,.u,.u,.u,.u,.u,.u,.u,.ptr 0 0,.v dD,.fn 365 [(1000001,0),(2000003,0)]] 8,[.u,.ptr 1000001 0,.v dD,.ptr 2000003 0,.u,.u,.u,.u,.u,.u,.u,.u,.u,.u,.u,.u,.u,.u,.u,.u,.u,.u,.u,.u,.u,.u,.u,.u,.ptr 0 0,.v dD,.fn 365 [(1000001,0),(2000003,0)],.u],[.ptr 0 0]],[.box 2000003 1 [.mfn 362 [(0,0)]],.box 1000001 175 [.ptr 0 0],.arr 1 pg,.box 0 177 [.v oU,.v dD,.slc 1,.v dD,.v dD]]⟩
def zi:SQ:=⟨us [] 13,[us [.ptr 0 0,.u,.fn 365 [(1000001,0),(2000003,0)],.u,.u,.u,.v dD,.v dD,.u,.u,.u,.u,.u,.u,.u,.u,.u,.u,.u,.u,.u,.u,.u,.u,.u,.u,.u,.u,.u,.u,.u,.u,.u,.u,.u,.u,.u,.fn 365 [(1000001,0),(2000003,0)]] 16,us [.ptr 0 0,.v dD,.fn 365 [(1000001,0),(2000003,0)],.u,.u,.u,.u,.u,.u,.u,.u,.u,.u,.ptr 0 0,.v dD,.fn 365 [(1000001,0),(2000003,0)]] 8,[.u,.ptr 1000001 0,.v dD,.ptr 2000003 0,.u,.u,.u,.u,.u,.u,.u,.u,.u,.u,.u,.u,.u,.u,.u,.u,.u,.u,.u,.u,.u,.u,.u,.u,.ptr 0 0,.v dD,.fn 365 [(1000001,0),(2000003,0)],.u],[.ptr 0 0]],[.box 2000003 1 [.mfn 362 [(0,0)]],.box 1000001 175 [.ptr 0 0],.arr 1 pg,.box 0 177 [.v oU,.v dD,.slc 1,.v dD,.v dD]]⟩
def zt:SQ:=⟨us [] 13,[us [.ptr 0 0,.u,.fn 365 [(1000001,0),(2000003,0)],.u,.u,.u,.v dD,.v dD,.u,.u,.u,.u,.u,.u,.u,.u,.u,.u,.u,.u,.u,.u,.u,.u,.u,.u,.u,.u,.u,.u,.u,.u,.u,.u,.u,.u,.u,.fn 365 [(1000001,0),(2000003,0)]] 16,us [.ptr 0 0,.v dD,.fn 365 [(1000001,0),(2000003,0)],.u,.u,.u,.u,.u,.u,.u,.u,.u,.u,.ptr 0 0,.v dD,.fn 365 [(1000001,0),(2000003,0)]] 8,[.u,.ptr 1000001 0,.v dD,.ptr 2000003 0,.u,.u,.u,.u,.u,.u,.u,.u,.u,.u,.u,.u,.u,.u,.u,.u,.u,.u,.u,.u,.u,.u,.u,.u,.ptr 0 0,.v dD,.fn 365 [(1000001,0),(2000003,0)],.u],[.ptr 0 0]],[]⟩
def pR (q:eY) {γ:Type} (rec kE:Int->Int->Int->Int->Int->Int->(List gI)->(List gU)->Int->Int->Int->Option γ) (kR:Int->Int->Int->Int->Int->Int->Option γ) (v0 v1 v2 v3 v4 v5:Int) (v6:List gI) (v7:List gU) (v8 v9 v10:Int):Option γ:=bM (Af v7 v8 v6 v9 v10) fun y0=>bif y0.2.1 then rec v0 v1 v2 v3 v4 v5 y0.1.2.2.1 y0.1.1 y0.1.2.1 y0.1.2.2.2.1 y0.1.2.2.2.2.1 else kE v0 v1 v2 v3 v4 v5 y0.1.2.2.1 y0.1.1 y0.1.2.1 y0.1.2.2.2.1 y0.1.2.2.2.2.1
def lu (q:eY):Nat->Int->Int->Int->Int->Int->Int->(List gI)->(List gU)->Int->Int->Int->Option (zi.den⊕zt.den)
 |0,_,_,_,_,_,_,_,_,_,_,_=>none
 |n+1,v0,v1,v2,v3,v4,v5,v6,v7,v8,v9,v10=>pR q (lu q n) (fun e0 e1 e2 e3 e4 e5 e6 e7 e8 e9 e10=>some (.inl ((),((e0,e1,()),(e2,e3,()),(e4,e5,()),(),()),((),(),e6,(e7,e8,e9,e10,()),())))) (fun r0 r1 r2 r3 r4 r5=>some (.inr ((),((r0,r1,()),(r2,r3,()),(r4,r5,()),(),()),()))) v0 v1 v2 v3 v4 v5 v6 v7 v8 v9 v10
def UY (q:eY) (n:Nat) (v:vN.den):=lu q n v.2.1.1.1 v.2.1.1.2.1 v.2.1.2.1.1 v.2.1.2.1.2.1 v.2.1.2.2.1.1 v.2.1.2.2.1.2.1 v.2.2.2.2.1 v.2.2.2.2.2.1.1 v.2.2.2.2.2.1.2.1 v.2.2.2.2.2.1.2.2.1 v.2.2.2.2.2.1.2.2.2.1
noncomputable def yV (q:eY):dI:=fU qi vN zi zt (.exit 0) (UY q bU) 18
def vO:SQ:=⟨us [.ptr 1000001 0] 12,[us [.ptr 0 0,.u,.fn 365 [(1000001,0),(2000003,0)],.u,.u,.u,.v dD,.v dD,.u,.u,.u,.u,.u,.u,.u,.u,.u,.u,.u,.u,.u,.u,.u,.u,.u,.u,.u,.u,.u,.u,.u,.u,.u,.u,.u,.u,.u,.fn 365 [(1000001,0),(2000003,0)]] 16,us [.ptr 0 0,.v dD,.fn 365 [(1000001,0),(2000003,0)],.u,.u,.u,.u,.u,.u,.u,.u,.u,.u,.ptr 0 0,.v dD,.fn 365 [(1000001,0),(2000003,0)]] 8,[.u,.ptr 1000001 0,.v dD,.ptr 2000003 0,.u,.u,.u,.u,.u,.u,.u,.u,.u,.u,.u,.u,.u,.u,.u,.u,.u,.u,.u,.u,.u,.u,.u,.u,.ptr 0 0,.v dD,.fn 365 [(1000001,0),(2000003,0)],.u],[.ptr 0 0]],[.box 2000003 1 [.mfn 363 [(0,0)]],.box 1000001 175 [.ptr 0 0],.arr 1 pg,.box 0 177 [.v oU,.v dD,.slc 1,.v dD,.v dD]]⟩
def zk:SQ:=⟨us [] 13,[us [.ptr 0 0,.u,.fn 365 [(1000001,0),(2000003,0)],.u,.u,.u,.v dD,.v dD,.u,.u,.u,.u,.u,.u,.u,.u,.u,.u,.u,.u,.u,.u,.u,.u,.u,.u,.u,.u,.u,.u,.u,.u,.u,.u,.u,.u,.u,.fn 365 [(1000001,0),(2000003,0)]] 16,us [.ptr 0 0,.v dD,.fn 365 [(1000001,0),(2000003,0)],.u,.u,.u,.u,.u,.u,.u,.u,.u,.u,.ptr 0 0,.v dD,.fn 365 [(1000001,0),(2000003,0)]] 8,[.u,.ptr 1000001 0,.v dD,.ptr 2000003 0,.u,.u,.u,.u,.u,.u,.u,.u,.u,.u,.u,.u,.u,.u,.u,.u,.u,.u,.u,.u,.u,.u,.u,.u,.ptr 0 0,.v dD,.fn 365 [(1000001,0),(2000003,0)],.u],[.ptr 0 0]],[.box 2000003 1 [.mfn 363 [(0,0)]],.box 1000001 175 [.ptr 0 0],.arr 1 pg,.box 0 177 [.v oU,.v dD,.slc 1,.v dD,.v dD]]⟩
def zu:SQ:=⟨us [] 13,[us [.ptr 0 0,.u,.fn 365 [(1000001,0),(2000003,0)],.u,.u,.u,.v dD,.v dD,.u,.u,.u,.u,.u,.u,.u,.u,.u,.u,.u,.u,.u,.u,.u,.u,.u,.u,.u,.u,.u,.u,.u,.u,.u,.u,.u,.u,.u,.fn 365 [(1000001,0),(2000003,0)]] 16,us [.ptr 0 0,.v dD,.fn 365 [(1000001,0),(2000003,0)],.u,.u,.u,.u,.u,.u,.u,.u,.u,.u,.ptr 0 0,.v dD,.fn 365 [(1000001,0),(2000003,0)]] 8,[.u,.ptr 1000001 0,.v dD,.ptr 2000003 0,.u,.u,.u,.u,.u,.u,.u,.u,.u,.u,.u,.u,.u,.u,.u,.u,.u,.u,.u,.u,.u,.u,.u,.u,.ptr 0 0,.v dD,.fn 365 [(1000001,0),(2000003,0)],.u],[.ptr 0 0]],[]⟩
def pU (q:eY) {γ:Type} (rec kE:Int->Int->Int->Int->Int->Int->(List gI)->(List gU)->Int->Int->Int->Option γ) (kR:Int->Int->Int->Int->Int->Int->Option γ) (v0 v1 v2 v3 v4 v5:Int) (v6:List gI) (v7:List gU) (v8 v9 v10:Int):Option γ:=bM (Af v7 v8 v6 v9 v10) fun y0=>bif y0.2.1 then rec v0 v1 v2 v3 v4 v5 y0.1.2.2.1 y0.1.1 y0.1.2.1 y0.1.2.2.2.1 y0.1.2.2.2.2.1 else kE v0 v1 v2 v3 v4 v5 y0.1.2.2.1 y0.1.1 y0.1.2.1 y0.1.2.2.2.1 y0.1.2.2.2.2.1
def lw (q:eY):Nat->Int->Int->Int->Int->Int->Int->(List gI)->(List gU)->Int->Int->Int->Option (zk.den⊕zu.den)
 |0,_,_,_,_,_,_,_,_,_,_,_=>none
 |n+1,v0,v1,v2,v3,v4,v5,v6,v7,v8,v9,v10=>pU q (lw q n) (fun e0 e1 e2 e3 e4 e5 e6 e7 e8 e9 e10=>some (.inl ((),((e0,e1,()),(e2,e3,()),(e4,e5,()),(),()),((),(),e6,(e7,e8,e9,e10,()),())))) (fun r0 r1 r2 r3 r4 r5=>some (.inr ((),((r0,r1,()),(r2,r3,()),(r4,r5,()),(),()),()))) v0 v1 v2 v3 v4 v5 v6 v7 v8 v9 v10
def UZ (q:eY) (n:Nat) (v:vO.den):=lw q n v.2.1.1.1 v.2.1.1.2.1 v.2.1.2.1.1 v.2.1.2.1.2.1 v.2.1.2.2.1.1 v.2.1.2.2.1.2.1 v.2.2.2.2.1 v.2.2.2.2.2.1.1 v.2.2.2.2.2.1.2.1 v.2.2.2.2.2.1.2.2.1 v.2.2.2.2.2.1.2.2.2.1
noncomputable def yX (q:eY):dI:=fU qi vO zk zu (.exit 0) (UZ q bU) 24
def vP:SQ:=⟨us [.ptr 1000001 0] 12,[us [.ptr 0 0,.u,.fn 365 [(1000001,0),(2000003,0)],.u,.u,.u,.v dD,.v dD,.u,.u,.u,.u,.u,.u,.u,.u,.u,.u,.u,.u,.u,.u,.u,.u,.u,.u,.u,.u,.u,.u,.u,.u,.u,.u,.u,.u,.u,.fn 365 [(1000001,0),(2000003,0)]] 16,us [.ptr 0 0,.v dD,.fn 365 [(1000001,0),(2000003,0)],.u,.u,.u,.u,.u,.u,.u,.u,.u,.u,.ptr 0 0,.v dD,.fn 365 [(1000001,0),(2000003,0)]] 8,[.u,.ptr 1000001 0,.v dD,.ptr 2000003 0,.u,.u,.u,.u,.u,.u,.u,.u,.u,.u,.u,.u,.u,.u,.u,.u,.u,.u,.u,.u,.u,.u,.u,.u,.ptr 0 0,.v dD,.fn 365 [(1000001,0),(2000003,0)],.u],[.ptr 0 0]],[.box 2000003 1 [.mfn 364 [(0,0)]],.box 1000001 175 [.ptr 0 0],.arr 1 pg,.box 0 177 [.v oU,.v dD,.slc 1,.v dD,.v dD]]⟩
def zl:SQ:=⟨us [] 13,[us [.ptr 0 0,.u,.fn 365 [(1000001,0),(2000003,0)],.u,.u,.u,.v dD,.v dD,.u,.u,.u,.u,.u,.u,.u,.u,.u,.u,.u,.u,.u,.u,.u,.u,.u,.u,.u,.u,.u,.u,.u,.u,.u,.u,.u,.u,.u,.fn 365 [(1000001,0),(2000003,0)]] 16,us [.ptr 0 0,.v dD,.fn 365 [(1000001,0),(2000003,0)],.u,.u,.u,.u,.u,.u,.u,.u,.u,.u,.ptr 0 0,.v dD,.fn 365 [(1000001,0),(2000003,0)]] 8,[.u,.ptr 1000001 0,.v dD,.ptr 2000003 0,.u,.u,.u,.u,.u,.u,.u,.u,.u,.u,.u,.u,.u,.u,.u,.u,.u,.u,.u,.u,.u,.u,.u,.u,.ptr 0 0,.v dD,.fn 365 [(1000001,0),(2000003,0)],.u],[.ptr 0 0]],[.box 2000003 1 [.mfn 364 [(0,0)]],.box 1000001 175 [.ptr 0 0],.arr 1 pg,.box 0 177 [.v oU,.v dD,.slc 1,.v dD,.v dD]]⟩
def zx:SQ:=⟨us [] 13,[us [.ptr 0 0,.u,.fn 365 [(1000001,0),(2000003,0)],.u,.u,.u,.v dD,.v dD,.u,.u,.u,.u,.u,.u,.u,.u,.u,.u,.u,.u,.u,.u,.u,.u,.u,.u,.u,.u,.u,.u,.u,.u,.u,.u,.u,.u,.u,.fn 365 [(1000001,0),(2000003,0)]] 16,us [.ptr 0 0,.v dD,.fn 365 [(1000001,0),(2000003,0)],.u,.u,.u,.u,.u,.u,.u,.u,.u,.u,.ptr 0 0,.v dD,.fn 365 [(1000001,0),(2000003,0)]] 8,[.u,.ptr 1000001 0,.v dD,.ptr 2000003 0,.u,.u,.u,.u,.u,.u,.u,.u,.u,.u,.u,.u,.u,.u,.u,.u,.u,.u,.u,.u,.u,.u,.u,.u,.ptr 0 0,.v dD,.fn 365 [(1000001,0),(2000003,0)],.u],[.ptr 0 0]],[]⟩
def pV (q:eY) {γ:Type} (rec kE:Int->Int->Int->Int->Int->Int->(List gI)->(List gU)->Int->Int->Int->Option γ) (kR:Int->Int->Int->Int->Int->Int->Option γ) (v0 v1 v2 v3 v4 v5:Int) (v6:List gI) (v7:List gU) (v8 v9 v10:Int):Option γ:=bM (Af v7 v8 v6 v9 v10) fun y0=>bif y0.2.1 then rec v0 v1 v2 v3 v4 v5 y0.1.2.2.1 y0.1.1 y0.1.2.1 y0.1.2.2.2.1 y0.1.2.2.2.2.1 else kE v0 v1 v2 v3 v4 v5 y0.1.2.2.1 y0.1.1 y0.1.2.1 y0.1.2.2.2.1 y0.1.2.2.2.2.1
def lC (q:eY):Nat->Int->Int->Int->Int->Int->Int->(List gI)->(List gU)->Int->Int->Int->Option (zl.den⊕zx.den)
 |0,_,_,_,_,_,_,_,_,_,_,_=>none
 |n+1,v0,v1,v2,v3,v4,v5,v6,v7,v8,v9,v10=>pV q (lC q n) (fun e0 e1 e2 e3 e4 e5 e6 e7 e8 e9 e10=>some (.inl ((),((e0,e1,()),(e2,e3,()),(e4,e5,()),(),()),((),(),e6,(e7,e8,e9,e10,()),())))) (fun r0 r1 r2 r3 r4 r5=>some (.inr ((),((r0,r1,()),(r2,r3,()),(r4,r5,()),(),()),()))) v0 v1 v2 v3 v4 v5 v6 v7 v8 v9 v10
def U0 (q:eY) (n:Nat) (v:vP.den):=lC q n v.2.1.1.1 v.2.1.1.2.1 v.2.1.2.1.1 v.2.1.2.1.2.1 v.2.1.2.2.1.1 v.2.1.2.2.1.2.1 v.2.2.2.2.1 v.2.2.2.2.2.1.1 v.2.2.2.2.2.1.2.1 v.2.2.2.2.2.1.2.2.1 v.2.2.2.2.2.1.2.2.2.1
noncomputable def yY (q:eY):dI:=fU qi vP zl zx (.exit 0) (U0 q bU) 30
def vS:SQ:=⟨us [.ptr 1000001 0] 12,[us [.ptr 0 0,.u,.fn 365 [(1000001,0),(2000003,0)],.u,.u,.u,.v dD,.v dD,.u,.u,.u,.u,.u,.u,.u,.u,.u,.u,.u,.u,.u,.u,.u,.u,.u,.u,.u,.u,.u,.u,.u,.u,.u,.u,.u,.u,.u,.fn 365 [(1000001,0),(2000003,0)]] 16,us [.ptr 0 0,.v dD,.fn 365 [(1000001,0),(2000003,0)],.u,.u,.u,.u,.u,.u,.u,.u,.u,.u,.ptr 0 0,.v dD,.fn 365 [(1000001,0),(2000003,0)]] 8,[.u,.ptr 1000001 0,.v dD,.ptr 2000003 0,.u,.u,.u,.u,.u,.u,.u,.u,.u,.u,.u,.u,.u,.u,.u,.u,.u,.u,.u,.u,.u,.u,.u,.u,.ptr 0 0,.v dD,.fn 365 [(1000001,0),(2000003,0)],.u],[.ptr 0 0]],[.box 2000003 1 [.mfn 359 [(0,0)]],.box 1000001 175 [.ptr 0 0],.arr 1 pg,.box 0 177 [.v oU,.v dD,.slc 1,.v dD,.v dD]]⟩
def zn:SQ:=⟨us [] 13,[us [.ptr 0 0,.u,.fn 365 [(1000001,0),(2000003,0)],.u,.u,.u,.v dD,.v dD,.u,.u,.u,.u,.u,.u,.u,.u,.u,.u,.u,.u,.u,.u,.u,.u,.u,.u,.u,.u,.u,.u,.u,.u,.u,.u,.u,.u,.u,.fn 365 [(1000001,0),(2000003,0)]] 16,us [.ptr 0 0,.v dD,.fn 365 [(1000001,0),(2000003,0)],.u,.u,.u,.u,.u,.u,.u,.u,.u,.u,.ptr 0 0,.v dD,.fn 365 [(1000001,0),(2000003,0)]] 8,[.u,.ptr 1000001 0,.v dD,.ptr 2000003 0,.u,.u,.u,.u,.u,.u,.u,.u,.u,.u,.u,.u,.u,.u,.u,.u,.u,.u,.u,.u,.u,.u,.u,.u,.ptr 0 0,.v dD,.fn 365 [(1000001,0),(2000003,0)],.u],[.ptr 0 0]],[.box 2000003 1 [.mfn 359 [(0,0)]],.box 1000001 175 [.ptr 0 0],.arr 1 pg,.box 0 177 [.v oU,.v dD,.slc 1,.v dD,.v dD]]⟩
def zy:SQ:=⟨us [] 13,[us [.ptr 0 0,.u,.fn 365 [(1000001,0),(2000003,0)],.u,.u,.u,.v dD,.v dD,.u,.u,.u,.u,.u,.u,.u,.u,.u,.u,.u,.u,.u,.u,.u,.u,.u,.u,.u,.u,.u,.u,.u,.u,.u,.u,.u,.u,.u,.fn 365 [(1000001,0),(2000003,0)]] 16,us [.ptr 0 0,.v dD,.fn 365 [(1000001,0),(2000003,0)],.u,.u,.u,.u,.u,.u,.u,.u,.u,.u,.ptr 0 0,.v dD,.fn 365 [(1000001,0),(2000003,0)]] 8,[.u,.ptr 1000001 0,.v dD,.ptr 2000003 0,.u,.u,.u,.u,.u,.u,.u,.u,.u,.u,.u,.u,.u,.u,.u,.u,.u,.u,.u,.u,.u,.u,.u,.u,.ptr 0 0,.v dD,.fn 365 [(1000001,0),(2000003,0)],.u],[.ptr 0 0]],[]⟩
def pW (q:eY) {γ:Type} (rec kE:Int->Int->Int->Int->Int->Int->(List gI)->(List gU)->Int->Int->Int->Option γ) (kR:Int->Int->Int->Int->Int->Int->Option γ) (v0 v1 v2 v3 v4 v5:Int) (v6:List gI) (v7:List gU) (v8 v9 v10:Int):Option γ:=bM (Af v7 v8 v6 v9 v10) fun y0=>bif y0.2.1 then rec v0 v1 v2 v3 v4 v5 y0.1.2.2.1 y0.1.1 y0.1.2.1 y0.1.2.2.2.1 y0.1.2.2.2.2.1 else kE v0 v1 v2 v3 v4 v5 y0.1.2.2.1 y0.1.1 y0.1.2.1 y0.1.2.2.2.1 y0.1.2.2.2.2.1
def lD (q:eY):Nat->Int->Int->Int->Int->Int->Int->(List gI)->(List gU)->Int->Int->Int->Option (zn.den⊕zy.den)
 |0,_,_,_,_,_,_,_,_,_,_,_=>none
 |n+1,v0,v1,v2,v3,v4,v5,v6,v7,v8,v9,v10=>pW q (lD q n) (fun e0 e1 e2 e3 e4 e5 e6 e7 e8 e9 e10=>some (.inl ((),((e0,e1,()),(e2,e3,()),(e4,e5,()),(),()),((),(),e6,(e7,e8,e9,e10,()),())))) (fun r0 r1 r2 r3 r4 r5=>some (.inr ((),((r0,r1,()),(r2,r3,()),(r4,r5,()),(),()),()))) v0 v1 v2 v3 v4 v5 v6 v7 v8 v9 v10
def U1 (q:eY) (n:Nat) (v:vS.den):=lD q n v.2.1.1.1 v.2.1.1.2.1 v.2.1.2.1.1 v.2.1.2.1.2.1 v.2.1.2.2.1.1 v.2.1.2.2.1.2.1 v.2.2.2.2.1 v.2.2.2.2.2.1.1 v.2.2.2.2.2.1.2.1 v.2.2.2.2.2.1.2.2.1 v.2.2.2.2.2.1.2.2.2.1
noncomputable def yZ (q:eY):dI:=fU qi vS zn zy (.exit 0) (U1 q bU) 36
def Aa (q:eY) (x0:List gU) (x1:Int) (x2:List gI) (x3 x4:Int):Option Bl:=bM (bif(bW 9 9)then(bif((((bW 9 9)&&true)&&(((nV pg x2 x2)&&(((nV tyD x0 x0)&&((bW x1 x1)&&((bW x3 x3)&&((bW x4 x4)&&true))))&&true))&&true))&&true)then(some ())else(none))else(none)) fun y0=>bM (xX x0 x1 x2 x3 x4 0) fun y1=>bif(bW y1.2.1 40)then bif(bW 10 10)then bif(bW y1.1.2.1 y1.1.2.1)then bif(bW y1.1.2.2.2.1 y1.1.2.2.2.1)then bif(eQ (cu y1.1.2.2.1 [(10,(y1.1.2.1,(0,(y1.1.2.2.2.1,()))))]) 32)then bif(bW 10 10)then bif(bW y1.1.2.1 y1.1.2.1)then bif(bW y1.1.2.2.2.1 y1.1.2.2.2.1)then bif((bW 10 10)&&((bW y1.1.2.1 y1.1.2.1)&&((bW 0 0)&&((bW y1.1.2.2.2.1 y1.1.2.2.2.1)&&true))))then bM (q.q360 y1.1.1 (dA .i64 y1.1.2.1 1) (cu y1.1.2.2.1 [(10,(y1.1.2.1,(0,(y1.1.2.2.2.1,()))))]) (bP y1.1.2.2.1) (dA .i64 y1.1.2.2.2.2.1 1)) fun y2=>bM (oq q bU (bP y1.1.2.2.1) y1.1.2.2.2.1 10 10 10 10 y2.1.2.2.1 y2.1.1 y2.1.2.1 y2.1.2.2.2.1 y2.1.2.2.2.2.1) fun y3=>dV y3 (fun a4=>bif(gV a4.2.2.2.2.1 a4.2.1.1.1)then bif(oD (dG a4.2.1.1.1) a4.2.2.2.2.1)then some ((a4.2.2.2.2.2.1.1,(a4.2.2.2.2.2.1.2.1,((iH a4.2.2.2.2.1 (dG a4.2.1.1.1) ((dL a4.2.2.2.2.1 (0,(0,(0,(0,())))) (dG a4.2.1.1.1)).1,((dL a4.2.2.2.2.1 (0,(0,(0,(0,())))) (dG a4.2.1.1.1)).2.1,(a4.2.2.2.2.2.1.2.1,((dL a4.2.2.2.2.1 (0,(0,(0,(0,())))) (dG a4.2.1.1.1)).2.2.2.1,()))))),(a4.2.1.1.2.1,((eG .i64 a4.2.2.2.2.2.1.2.2.2.1 1),()))))),())else none else none) (fun b4=>none)else none else none else none else none else none else none else none else none else bif(bW y1.2.1 105)then bif(bW 11 11)then bif(bW y1.1.2.1 y1.1.2.1)then bif(bW y1.1.2.2.2.1 y1.1.2.2.2.1)then bif(eQ (cu y1.1.2.2.1 [(11,(y1.1.2.1,(0,(y1.1.2.2.2.1,()))))]) 32)then bif(bW 11 11)then bif(bW y1.1.2.1 y1.1.2.1)then bif(bW y1.1.2.2.2.1 y1.1.2.2.2.1)then bif((bW 11 11)&&((bW y1.1.2.1 y1.1.2.1)&&((bW 0 0)&&((bW y1.1.2.2.2.1 y1.1.2.2.2.1)&&true))))then bM (q.q361 y1.1.1 (dA .i64 y1.1.2.1 1) (cu y1.1.2.2.1 [(11,(y1.1.2.1,(0,(y1.1.2.2.2.1,()))))]) (bP y1.1.2.2.1) (dA .i64 y1.1.2.2.2.2.1 1)) fun y2=>bM (lq q bU (bP y1.1.2.2.1) y1.1.2.2.2.1 11 11 11 11 y2.1.2.2.1 y2.1.1 y2.1.2.1 y2.1.2.2.2.1 y2.1.2.2.2.2.1) fun y3=>dV y3 (fun a4=>bif(gV a4.2.2.2.2.1 a4.2.1.1.1)then bif(oD (dG a4.2.1.1.1) a4.2.2.2.2.1)then some ((a4.2.2.2.2.2.1.1,(a4.2.2.2.2.2.1.2.1,((iH a4.2.2.2.2.1 (dG a4.2.1.1.1) ((dL a4.2.2.2.2.1 (0,(0,(0,(0,())))) (dG a4.2.1.1.1)).1,((dL a4.2.2.2.2.1 (0,(0,(0,(0,())))) (dG a4.2.1.1.1)).2.1,(a4.2.2.2.2.2.1.2.1,((dL a4.2.2.2.2.1 (0,(0,(0,(0,())))) (dG a4.2.1.1.1)).2.2.2.1,()))))),(a4.2.1.1.2.1,((eG .i64 a4.2.2.2.2.2.1.2.2.2.1 1),()))))),())else none else none) (fun b4=>none)else none else none else none else none else none else none else none else none else bif(bW y1.2.1 119)then bif(bW 12 12)then bif(bW y1.1.2.1 y1.1.2.1)then bif(bW y1.1.2.2.2.1 y1.1.2.2.2.1)then bif(eQ (cu y1.1.2.2.1 [(12,(y1.1.2.1,(0,(y1.1.2.2.2.1,()))))]) 32)then bif(bW 12 12)then bif(bW y1.1.2.1 y1.1.2.1)then bif(bW y1.1.2.2.2.1 y1.1.2.2.2.1)then bif((bW 12 12)&&((bW y1.1.2.1 y1.1.2.1)&&((bW 0 0)&&((bW y1.1.2.2.2.1 y1.1.2.2.2.1)&&true))))then bM (q.q362 y1.1.1 (dA .i64 y1.1.2.1 1) (cu y1.1.2.2.1 [(12,(y1.1.2.1,(0,(y1.1.2.2.2.1,()))))]) (bP y1.1.2.2.1) (dA .i64 y1.1.2.2.2.2.1 1)) fun y2=>bM (lu q bU (bP y1.1.2.2.1) y1.1.2.2.2.1 12 12 12 12 y2.1.2.2.1 y2.1.1 y2.1.2.1 y2.1.2.2.2.1 y2.1.2.2.2.2.1) fun y3=>dV y3 (fun a4=>bif(gV a4.2.2.2.2.1 a4.2.1.1.1)then bif(oD (dG a4.2.1.1.1) a4.2.2.2.2.1)then some ((a4.2.2.2.2.2.1.1,(a4.2.2.2.2.2.1.2.1,((iH a4.2.2.2.2.1 (dG a4.2.1.1.1) ((dL a4.2.2.2.2.1 (0,(0,(0,(0,())))) (dG a4.2.1.1.1)).1,((dL a4.2.2.2.2.1 (0,(0,(0,(0,())))) (dG a4.2.1.1.1)).2.1,(a4.2.2.2.2.2.1.2.1,((dL a4.2.2.2.2.1 (0,(0,(0,(0,())))) (dG a4.2.1.1.1)).2.2.2.1,()))))),(a4.2.1.1.2.1,((eG .i64 a4.2.2.2.2.2.1.2.2.2.1 1),()))))),())else none else none) (fun b4=>none)else none else none else none else none else none else none else none else none else bif(bW y1.2.1 114)then bif(bW 13 13)then bif(bW y1.1.2.1 y1.1.2.1)then bif(bW y1.1.2.2.2.1 y1.1.2.2.2.1)then bif(eQ (cu y1.1.2.2.1 [(13,(y1.1.2.1,(0,(y1.1.2.2.2.1,()))))]) 32)then bif(bW 13 13)then bif(bW y1.1.2.1 y1.1.2.1)then bif(bW y1.1.2.2.2.1 y1.1.2.2.2.1)then bif((bW 13 13)&&((bW y1.1.2.1 y1.1.2.1)&&((bW 0 0)&&((bW y1.1.2.2.2.1 y1.1.2.2.2.1)&&true))))then bM (q.q363 y1.1.1 (dA .i64 y1.1.2.1 1) (cu y1.1.2.2.1 [(13,(y1.1.2.1,(0,(y1.1.2.2.2.1,()))))]) (bP y1.1.2.2.1) (dA .i64 y1.1.2.2.2.2.1 1)) fun y2=>bM (lw q bU (bP y1.1.2.2.1) y1.1.2.2.2.1 13 13 13 13 y2.1.2.2.1 y2.1.1 y2.1.2.1 y2.1.2.2.2.1 y2.1.2.2.2.2.1) fun y3=>dV y3 (fun a4=>bif(gV a4.2.2.2.2.1 a4.2.1.1.1)then bif(oD (dG a4.2.1.1.1) a4.2.2.2.2.1)then some ((a4.2.2.2.2.2.1.1,(a4.2.2.2.2.2.1.2.1,((iH a4.2.2.2.2.1 (dG a4.2.1.1.1) ((dL a4.2.2.2.2.1 (0,(0,(0,(0,())))) (dG a4.2.1.1.1)).1,((dL a4.2.2.2.2.1 (0,(0,(0,(0,())))) (dG a4.2.1.1.1)).2.1,(a4.2.2.2.2.2.1.2.1,((dL a4.2.2.2.2.1 (0,(0,(0,(0,())))) (dG a4.2.1.1.1)).2.2.2.1,()))))),(a4.2.1.1.2.1,((eG .i64 a4.2.2.2.2.2.1.2.2.2.1 1),()))))),())else none else none) (fun b4=>none)else none else none else none else none else none else none else none else none else bif(bW y1.2.1 99)then bif(bW 14 14)then bif(bW y1.1.2.1 y1.1.2.1)then bif(bW y1.1.2.2.2.1 y1.1.2.2.2.1)then bif(eQ (cu y1.1.2.2.1 [(14,(y1.1.2.1,(0,(y1.1.2.2.2.1,()))))]) 32)then bif(bW 14 14)then bif(bW y1.1.2.1 y1.1.2.1)then bif(bW y1.1.2.2.2.1 y1.1.2.2.2.1)then bif((bW 14 14)&&((bW y1.1.2.1 y1.1.2.1)&&((bW 0 0)&&((bW y1.1.2.2.2.1 y1.1.2.2.2.1)&&true))))then bM (q.q364 y1.1.1 (dA .i64 y1.1.2.1 1) (cu y1.1.2.2.1 [(14,(y1.1.2.1,(0,(y1.1.2.2.2.1,()))))]) (bP y1.1.2.2.1) (dA .i64 y1.1.2.2.2.2.1 1)) fun y2=>bM (lC q bU (bP y1.1.2.2.1) y1.1.2.2.2.1 14 14 14 14 y2.1.2.2.1 y2.1.1 y2.1.2.1 y2.1.2.2.2.1 y2.1.2.2.2.2.1) fun y3=>dV y3 (fun a4=>bif(gV a4.2.2.2.2.1 a4.2.1.1.1)then bif(oD (dG a4.2.1.1.1) a4.2.2.2.2.1)then some ((a4.2.2.2.2.2.1.1,(a4.2.2.2.2.2.1.2.1,((iH a4.2.2.2.2.1 (dG a4.2.1.1.1) ((dL a4.2.2.2.2.1 (0,(0,(0,(0,())))) (dG a4.2.1.1.1)).1,((dL a4.2.2.2.2.1 (0,(0,(0,(0,())))) (dG a4.2.1.1.1)).2.1,(a4.2.2.2.2.2.1.2.1,((dL a4.2.2.2.2.1 (0,(0,(0,(0,())))) (dG a4.2.1.1.1)).2.2.2.1,()))))),(a4.2.1.1.2.1,((eG .i64 a4.2.2.2.2.2.1.2.2.2.1 1),()))))),())else none else none) (fun b4=>none)else none else none else none else none else none else none else none else none else bif(bW 9 9)then bif(bW y1.1.2.1 y1.1.2.1)then bif(bW y1.1.2.2.2.1 y1.1.2.2.2.1)then bif(eQ (cu y1.1.2.2.1 [(9,(y1.1.2.1,(0,(y1.1.2.2.2.1,()))))]) 32)then bif(bW 9 9)then bif(bW y1.1.2.1 y1.1.2.1)then bif(bW y1.1.2.2.2.1 y1.1.2.2.2.1)then bif((bW 9 9)&&((bW y1.1.2.1 y1.1.2.1)&&((bW 0 0)&&((bW y1.1.2.2.2.1 y1.1.2.2.2.1)&&true))))then bM (q.q359 y1.1.1 (dA .i64 y1.1.2.1 1) (cu y1.1.2.2.1 [(9,(y1.1.2.1,(0,(y1.1.2.2.2.1,()))))]) (bP y1.1.2.2.1) (dA .i64 y1.1.2.2.2.2.1 1)) fun y2=>bM (lD q bU (bP y1.1.2.2.1) y1.1.2.2.2.1 9 9 9 9 y2.1.2.2.1 y2.1.1 y2.1.2.1 y2.1.2.2.2.1 y2.1.2.2.2.2.1) fun y3=>dV y3 (fun a4=>bif(gV a4.2.2.2.2.1 a4.2.1.1.1)then bif(oD (dG a4.2.1.1.1) a4.2.2.2.2.1)then some ((a4.2.2.2.2.2.1.1,(a4.2.2.2.2.2.1.2.1,((iH a4.2.2.2.2.1 (dG a4.2.1.1.1) ((dL a4.2.2.2.2.1 (0,(0,(0,(0,())))) (dG a4.2.1.1.1)).1,((dL a4.2.2.2.2.1 (0,(0,(0,(0,())))) (dG a4.2.1.1.1)).2.1,(a4.2.2.2.2.2.1.2.1,((dL a4.2.2.2.2.1 (0,(0,(0,(0,())))) (dG a4.2.1.1.1)).2.2.2.1,()))))),(a4.2.1.1.2.1,((eG .i64 a4.2.2.2.2.2.1.2.2.2.1 1),()))))),())else none else none) (fun b4=>none)else none else none else none else none else none else none else none else none
noncomputable def BD (q:eY):Env:=ed prog tt [] [(365,2,qi),(346,600013,atz),(348,600001,adr),(119,600003,adq),(365,600001,ads)] [(365,2,nJ (D9 q) (nJ (yU q) (nJ (yV q) (nJ (yX q) (nJ (yY q) ((yZ q)))))))] [] [(242,EP),(359,ak9 q),(360,ala q),(361,alb q),(362,alc q),(363,ald q),(364,ale q),(366,ahA)]
def OV (q:eY) {γ:Type} (a:Ci.den->Option γ) (b:Ew.den->Option γ) (c:EH.den->Option γ) (v:Ci.den):Option γ:=uJ q (fun v0 v1 v2 v3 v4 v5 v6 v7 v8 v9 v10=>a ((),((v0,v1,()),(v2,v3,()),(v4,v5,()),(),()),((),(),v6,(v7,v8,v9,v10,()),()))) (fun e0 e1 e2 e3 e4 e5 e6 e7 e8 e9 e10=>b ((),((e0,e1,()),(e2,e3,()),(e4,e5,()),(),()),((),(),e6,(e7,e8,e9,e10,()),()))) (fun r0 r1 r2 r3 r4 r5=>c ((),((r0,r1,()),(r2,r3,()),(r4,r5,()),(),()),())) v.2.1.1.1 v.2.1.1.2.1 v.2.1.2.1.1 v.2.1.2.1.2.1 v.2.1.2.2.1.1 v.2.1.2.2.1.2.1 v.2.2.2.2.1 v.2.2.2.2.2.1.1 v.2.2.2.2.2.1.2.1 v.2.2.2.2.2.1.2.2.1 v.2.2.2.2.2.1.2.2.2.1
theorem aeg (q:eY):dX (BD q) 365 og (D9 q):=lK (OV q) (h2:=by intros;simp only[OV,uJ,dm,dn,bK,cZ,dw])
def Hm (q:eY) {γ:Type} (a:vM.den->Option γ) (b:zh.den->Option γ) (c:zq.den->Option γ) (v:vM.den):Option γ:=pO q (fun v0 v1 v2 v3 v4 v5 v6 v7 v8 v9 v10=>a ((),((v0,v1,()),(v2,v3,()),(v4,v5,()),(),()),((),(),v6,(v7,v8,v9,v10,()),()))) (fun e0 e1 e2 e3 e4 e5 e6 e7 e8 e9 e10=>b ((),((e0,e1,()),(e2,e3,()),(e4,e5,()),(),()),((),(),e6,(e7,e8,e9,e10,()),()))) (fun r0 r1 r2 r3 r4 r5=>c ((),((r0,r1,()),(r2,r3,()),(r4,r5,()),(),()),())) v.2.1.1.1 v.2.1.1.2.1 v.2.1.2.1.1 v.2.1.2.1.2.1 v.2.1.2.2.1.1 v.2.1.2.2.1.2.1 v.2.2.2.2.1 v.2.2.2.2.2.1.1 v.2.2.2.2.2.1.2.1 v.2.2.2.2.2.1.2.2.1 v.2.2.2.2.2.1.2.2.2.1
theorem U6 (q:eY):dX (BD q) 365 og (yU q):=lK (Hm q) (h2:=by intros;simp only[Hm,pO,dm,dn,bK,cZ,dw])
def Ho (q:eY) {γ:Type} (a:vN.den->Option γ) (b:zi.den->Option γ) (c:zt.den->Option γ) (v:vN.den):Option γ:=pR q (fun v0 v1 v2 v3 v4 v5 v6 v7 v8 v9 v10=>a ((),((v0,v1,()),(v2,v3,()),(v4,v5,()),(),()),((),(),v6,(v7,v8,v9,v10,()),()))) (fun e0 e1 e2 e3 e4 e5 e6 e7 e8 e9 e10=>b ((),((e0,e1,()),(e2,e3,()),(e4,e5,()),(),()),((),(),e6,(e7,e8,e9,e10,()),()))) (fun r0 r1 r2 r3 r4 r5=>c ((),((r0,r1,()),(r2,r3,()),(r4,r5,()),(),()),())) v.2.1.1.1 v.2.1.1.2.1 v.2.1.2.1.1 v.2.1.2.1.2.1 v.2.1.2.2.1.1 v.2.1.2.2.1.2.1 v.2.2.2.2.1 v.2.2.2.2.2.1.1 v.2.2.2.2.2.1.2.1 v.2.2.2.2.2.1.2.2.1 v.2.2.2.2.2.1.2.2.2.1
theorem U7 (q:eY):dX (BD q) 365 og (yV q):=lK (Ho q) (h2:=by intros;simp only[Ho,pR,dm,dn,bK,cZ,dw])
def Hq (q:eY) {γ:Type} (a:vO.den->Option γ) (b:zk.den->Option γ) (c:zu.den->Option γ) (v:vO.den):Option γ:=pU q (fun v0 v1 v2 v3 v4 v5 v6 v7 v8 v9 v10=>a ((),((v0,v1,()),(v2,v3,()),(v4,v5,()),(),()),((),(),v6,(v7,v8,v9,v10,()),()))) (fun e0 e1 e2 e3 e4 e5 e6 e7 e8 e9 e10=>b ((),((e0,e1,()),(e2,e3,()),(e4,e5,()),(),()),((),(),e6,(e7,e8,e9,e10,()),()))) (fun r0 r1 r2 r3 r4 r5=>c ((),((r0,r1,()),(r2,r3,()),(r4,r5,()),(),()),())) v.2.1.1.1 v.2.1.1.2.1 v.2.1.2.1.1 v.2.1.2.1.2.1 v.2.1.2.2.1.1 v.2.1.2.2.1.2.1 v.2.2.2.2.1 v.2.2.2.2.2.1.1 v.2.2.2.2.2.1.2.1 v.2.2.2.2.2.1.2.2.1 v.2.2.2.2.2.1.2.2.2.1
theorem U8 (q:eY):dX (BD q) 365 og (yX q):=lK (Hq q) (h2:=by intros;simp only[Hq,pU,dm,dn,bK,cZ,dw])
def Hr (q:eY) {γ:Type} (a:vP.den->Option γ) (b:zl.den->Option γ) (c:zx.den->Option γ) (v:vP.den):Option γ:=pV q (fun v0 v1 v2 v3 v4 v5 v6 v7 v8 v9 v10=>a ((),((v0,v1,()),(v2,v3,()),(v4,v5,()),(),()),((),(),v6,(v7,v8,v9,v10,()),()))) (fun e0 e1 e2 e3 e4 e5 e6 e7 e8 e9 e10=>b ((),((e0,e1,()),(e2,e3,()),(e4,e5,()),(),()),((),(),e6,(e7,e8,e9,e10,()),()))) (fun r0 r1 r2 r3 r4 r5=>c ((),((r0,r1,()),(r2,r3,()),(r4,r5,()),(),()),())) v.2.1.1.1 v.2.1.1.2.1 v.2.1.2.1.1 v.2.1.2.1.2.1 v.2.1.2.2.1.1 v.2.1.2.2.1.2.1 v.2.2.2.2.1 v.2.2.2.2.2.1.1 v.2.2.2.2.2.1.2.1 v.2.2.2.2.2.1.2.2.1 v.2.2.2.2.2.1.2.2.2.1
theorem U9 (q:eY):dX (BD q) 365 og (yY q):=lK (Hr q) (h2:=by intros;simp only[Hr,pV,dm,dn,bK,cZ,dw])
def Ht (q:eY) {γ:Type} (a:vS.den->Option γ) (b:zn.den->Option γ) (c:zy.den->Option γ) (v:vS.den):Option γ:=pW q (fun v0 v1 v2 v3 v4 v5 v6 v7 v8 v9 v10=>a ((),((v0,v1,()),(v2,v3,()),(v4,v5,()),(),()),((),(),v6,(v7,v8,v9,v10,()),()))) (fun e0 e1 e2 e3 e4 e5 e6 e7 e8 e9 e10=>b ((),((e0,e1,()),(e2,e3,()),(e4,e5,()),(),()),((),(),e6,(e7,e8,e9,e10,()),()))) (fun r0 r1 r2 r3 r4 r5=>c ((),((r0,r1,()),(r2,r3,()),(r4,r5,()),(),()),())) v.2.1.1.1 v.2.1.1.2.1 v.2.1.2.1.1 v.2.1.2.1.2.1 v.2.1.2.2.1.1 v.2.1.2.2.1.2.1 v.2.2.2.2.1 v.2.2.2.2.2.1.1 v.2.2.2.2.2.1.2.1 v.2.2.2.2.2.1.2.2.1 v.2.2.2.2.2.1.2.2.2.1
theorem Va (q:eY):dX (BD q) 365 og (yZ q):=lK (Ht q) (h2:=by intros;simp only[Ht,pW,dm,dn,bK,cZ,dw])
theorem agw (q:eY):dU (BD q) 365 QJ:=qj [og] (aD (fun L h=>by rw[show((BD q)).lp 365 (dH og)=some (nJ (D9 q) (nJ (yU q) (nJ (yV q) (nJ (yX q) (nJ (yY q) ((yZ q))))))) by kernel_rfl]at h;cases h;exact rX (aeg q) (rX (U6 q) (rX (U7 q) (rX (U8 q) (rX (U9 q) ((Va q))))))) aN)
theorem anA (q:eY) (H:GL q):dK (BD q):=eB aN [365] (aD ⟨f365,QJ,by kernel_rfl,by kernel_rfl,agw q⟩ aN) (hx:=(aD sQ (aD H.2.2.2.2.2.2.2.1 (aD H.2.2.2.2.2.2.2.2.1 (aD H.2.2.2.2.2.2.2.2.2.1 (aD H.2.2.2.2.2.2.2.2.2.2.1 (aD H.2.2.2.2.2.2.2.2.2.2.2.1 (aD H.2.2.2.2.2.2.2.2.2.2.2.2.1 (aD W9 aN)))))))))
def axP:dZ:=⟨[0],[],[],[],[],[]⟩
def adw:dZ:=⟨[0,2,6,7],[],[],[],[],[]⟩
def asb (q:eY) (x0:List gU) (x1:Int) (x2:List gI) (x3 x4:Int):Option Bl:=bM (pJ x0 x1 x2 x3 x4) fun y0=>bM (JA y0.1.1 y0.1.2.1 y0.1.2.2.1 y0.1.2.2.2.1 y0.1.2.2.2.2.1) fun y1=>bif y1.2.1 then bif(bW 2 2)then bif(bW y1.1.2.1 y1.1.2.1)then bif(bW y1.1.2.2.2.1 y1.1.2.2.2.1)then bif(eQ (cu y1.1.2.2.1 [(2,(y1.1.2.1,(0,(y1.1.2.2.2.1,()))))]) 32)then bif(bW 2 2)then bif(bW y1.1.2.1 y1.1.2.1)then bif(bW y1.1.2.2.2.1 y1.1.2.2.2.1)then bif((bW 2 2)&&((bW y1.1.2.1 y1.1.2.1)&&((bW 0 0)&&((bW y1.1.2.2.2.1 y1.1.2.2.2.1)&&true))))then bM (q.q186 y1.1.1 y1.1.2.1 (cu y1.1.2.2.1 [(2,(y1.1.2.1,(0,(y1.1.2.2.2.1,()))))]) (bP y1.1.2.2.1) y1.1.2.2.2.2.1) fun y2=>bif(gV y2.1.2.2.1 (bP y1.1.2.2.1))then bif(oD (dG (bP y1.1.2.2.1)) y2.1.2.2.1)then some ((y2.1.1,(y2.1.2.1,((iH y2.1.2.2.1 (dG (bP y1.1.2.2.1)) ((dL y2.1.2.2.1 (0,(0,(0,(0,())))) (dG (bP y1.1.2.2.1))).1,((dL y2.1.2.2.1 (0,(0,(0,(0,())))) (dG (bP y1.1.2.2.1))).2.1,(y2.1.2.1,((dL y2.1.2.2.1 (0,(0,(0,(0,())))) (dG (bP y1.1.2.2.1))).2.2.2.1,()))))),(y1.1.2.2.2.1,(y2.1.2.2.2.2.1,()))))),())else none else none else none else none else none else none else none else none else none else none else bM (xY y1.1.1 y1.1.2.1 y1.1.2.2.1 y1.1.2.2.2.1 y1.1.2.2.2.2.1) fun y2=>some ((y2.1.1,(y2.1.2.1,(y2.1.2.2.1,(y2.1.2.2.2.1,(y2.1.2.2.2.2.1,()))))),())
noncomputable def aC6 (q:eY):Env:=ed prog tt [] [(372,600002,axP),(119,600003,adw)] [] [] [(185,NC),(186,abH q),(245,CW),(322,EQ)]
theorem anU (q:eY) (H:GL q):dK (aC6 q):=eB aN [] aN (hx:=(aD Bc (aD H.1 (aD qJ (aD sS aN)))))
def ar5 (q:eY) (x0:List gU) (x1:Int) (x2:List gI) (x3 x4:Int):Option Bl:=bM (q.q372 x0 x1 x2 x3 x4) fun y0=>bM (rJ y0.1.1 y0.1.2.1 y0.1.2.2.1 y0.1.2.2.2.1 y0.1.2.2.2.2.1 [125]) fun y1=>some ((y1.1.1,(y1.1.2.1,(y1.1.2.2.1,(y1.1.2.2.2.1,(y1.1.2.2.2.2.1,()))))),())
noncomputable def aCY (q:eY):Env:=ed prog tt [] [] [] [] [(368,ER),(372,Gz q)]
theorem anJ (q:eY) (H:GL q):dK (aCY q):=eB aN [] aN (hx:=(aD sU (aD H.2.2.2.2.2.2.1 aN)))
def ar6 (q:eY) (x0:List gU) (x1:Int) (x2:List gI) (x3 x4:Int):Option Bl:=bM (q.q372 x0 x1 x2 x3 x4) fun y0=>bM (rJ y0.1.1 y0.1.2.1 y0.1.2.2.1 y0.1.2.2.2.1 y0.1.2.2.2.2.1 [41]) fun y1=>some ((y1.1.1,(y1.1.2.1,(y1.1.2.2.1,(y1.1.2.2.2.1,(y1.1.2.2.2.2.1,()))))),())
noncomputable def aCZ (q:eY):Env:=ed prog tt [] [] [] [] [(368,ER),(372,Gz q)]
theorem anK (q:eY) (H:GL q):dK (aCZ q):=eB aN [] aN (hx:=(aD sU (aD H.2.2.2.2.2.2.1 aN)))
noncomputable def aBu:Code:=(f361.body).getD .skip
noncomputable def aqS:Code:=cA (cA (cA (cB (cB (cB (aBu))))))
def atr:dZ:=⟨[0,100003],[],[0],[],[],[]⟩
def Zq:SQ:=⟨us [.ptr 0 0] 21,[[.ptr 0 0]],[.box 0 177 [.v oU,.v dD,.slc 1,.v dD,.v dD],.arr 1 pg]⟩
def aae:SQ:=⟨us [.ptr 0 0] 21,[[.ptr 0 0]],[.box 0 177 [.v oU,.v dD,.slc 1,.v dD,.v dD],.arr 1 pg]⟩
def aaS:SQ:=⟨us [] 22,[[.ptr 0 0]],[]⟩
def Qn (q:eY) {γ:Type} (rec kE:(List gU)->Int->Int->Int->(List gI)->Option γ) (kR:Option γ) (v0:List gU) (v1 v2 v3:Int) (v4:List gI):Option γ:=bM (lI v0 v1 v4 v2 v3 [101]) fun y0=>bif y0.2.1 then bM (q.q372 y0.1.1 y0.1.2.1 y0.1.2.2.1 y0.1.2.2.2.1 y0.1.2.2.2.2.1) fun y1=>bM (rJ y1.1.1 y1.1.2.1 y1.1.2.2.1 y1.1.2.2.2.1 y1.1.2.2.2.2.1 [116]) fun y2=>bM (q.q372 y2.1.1 y2.1.2.1 y2.1.2.2.1 y2.1.2.2.2.1 y2.1.2.2.2.2.1) fun y3=>rec y3.1.1 y3.1.2.1 y3.1.2.2.2.1 y3.1.2.2.2.2.1 y3.1.2.2.1 else kE y0.1.1 y0.1.2.1 y0.1.2.2.2.1 y0.1.2.2.2.2.1 y0.1.2.2.1
def JZ (q:eY):Nat->(List gU)->Int->Int->Int->(List gI)->Option (aae.den⊕aaS.den)
 |0,_,_,_,_,_=>none
 |n+1,v0,v1,v2,v3,v4=>Qn q (JZ q n) (fun e0 e1 e2 e3 e4=>some (.inl ((),((),()),((e0,e1,e2,e3,()),e4,())))) (some (.inr ((),((),()),()))) v0 v1 v2 v3 v4
def ayG (q:eY) (n:Nat) (v:Zq.den):=JZ q n v.2.2.1.1 v.2.2.1.2.1 v.2.2.1.2.2.1 v.2.2.1.2.2.2.1 v.2.2.2.1
noncomputable def ajz (q:eY):dI:=fU atr Zq aae aaS (.exit 0) (ayG q bU) 6
def ar7 (q:eY) (x0:List gU) (x1:Int) (x2:List gI) (x3 x4:Int):Option Bl:=bM (q.q372 x0 x1 x2 x3 x4) fun y0=>bM (rJ y0.1.1 y0.1.2.1 y0.1.2.2.1 y0.1.2.2.2.1 y0.1.2.2.2.2.1 [116]) fun y1=>bM (q.q372 y1.1.1 y1.1.2.1 y1.1.2.2.1 y1.1.2.2.2.1 y1.1.2.2.2.2.1) fun y2=>bM (JZ q bU y2.1.1 y2.1.2.1 y2.1.2.2.2.1 y2.1.2.2.2.2.1 y2.1.2.2.1) fun y3=>dV y3 (fun a4=>bM (lI a4.2.2.1.1 a4.2.2.1.2.1 a4.2.2.2.1 a4.2.2.1.2.2.1 a4.2.2.1.2.2.2.1 [108]) fun y5=>bif y5.2.1 then bM (q.q372 y5.1.1 y5.1.2.1 y5.1.2.2.1 y5.1.2.2.2.1 y5.1.2.2.2.2.1) fun y6=>bM (rJ y6.1.1 y6.1.2.1 y6.1.2.2.1 y6.1.2.2.2.1 y6.1.2.2.2.2.1 [102]) fun y7=>some ((y7.1.1,(y7.1.2.1,(y7.1.2.2.1,(y7.1.2.2.2.1,(y7.1.2.2.2.2.1,()))))),())else bM (rJ y5.1.1 y5.1.2.1 y5.1.2.2.1 y5.1.2.2.2.1 y5.1.2.2.2.2.1 [102]) fun y6=>some ((y6.1.1,(y6.1.2.1,(y6.1.2.2.1,(y6.1.2.2.2.1,(y6.1.2.2.2.2.1,()))))),())) (fun b4=>none)
noncomputable def afK (q:eY):Env:=ed prog tt [] [(361,3,atr)] [(361,3,ajz q)] [] [(184,sN),(368,ER),(372,Gz q)]
def akO (q:eY) {γ:Type} (a:Zq.den->Option γ) (b:aae.den->Option γ) (c:aaS.den->Option γ) (v:Zq.den):Option γ:=Qn q (fun v0 v1 v2 v3 v4=>a ((),((),()),((v0,v1,v2,v3,()),v4,()))) (fun e0 e1 e2 e3 e4=>b ((),((),()),((e0,e1,e2,e3,()),e4,()))) (c ((),((),()),())) v.2.2.1.1 v.2.2.1.2.1 v.2.2.1.2.2.1 v.2.2.1.2.2.2.1 v.2.2.2.1
theorem azw (q:eY):dX (afK q) 361 aqS (ajz q):=lK (akO q) (h2:=by intros;simp only[akO,Qn,dm,dn,bK,cZ,dw])
theorem aEd (q:eY):dU (afK q) 361 aBu:=qj [aqS] (aD (fM (azw q)) aN)
theorem anL (q:eY) (H:GL q):dK (afK q):=eB aN [361] (aD ⟨f361,aBu,by kernel_rfl,by kernel_rfl,aEd q⟩ aN) (hx:=(aD kQ (aD sU (aD H.2.2.2.2.2.2.1 aN))))
def ar8 (q:eY) (x0:List gU) (x1:Int) (x2:List gI) (x3 x4:Int):Option Bl:=bM (q.q372 x0 x1 x2 x3 x4) fun y0=>bM (q.q373 y0.1.1 y0.1.2.1 y0.1.2.2.1 y0.1.2.2.2.1 y0.1.2.2.2.2.1) fun y1=>some ((y1.1.1,(y1.1.2.1,(y1.1.2.2.1,(y1.1.2.2.2.1,(y1.1.2.2.2.2.1,()))))),())
noncomputable def aC0 (q:eY):Env:=ed prog tt [] [] [] [] [(372,Gz q),(373,abR q)]
theorem anM (q:eY) (H:GL q):dK (aC0 q):=eB aN [] aN (hx:=(aD H.2.2.2.2.2.2.1 (aD H.2.2.2.2.2.2.2.2.2.2.2.2.2.2 aN)))
noncomputable def aBv:Code:=(f363.body).getD .skip
noncomputable def aqT:Code:=cA (cA (cA (cA (cB (cB (cB (cB (cA (cB (aBv))))))))))
def att:dZ:=⟨[0,100007],[],[0],[],[],[]⟩
def Zr:SQ:=⟨us [.ptr 0 0] 47,[[.ptr 0 0]],[.box 0 177 [.v oU,.v dD,.slc 1,.v dD,.v dD],.arr 1 pg]⟩
def aaf:SQ:=⟨us [.ptr 0 0] 47,[[.ptr 0 0]],[.box 0 177 [.v oU,.v dD,.slc 1,.v dD,.v dD],.arr 1 pg]⟩
def aaT:SQ:=⟨us [] 48,[[.ptr 0 0]],[]⟩
def Qo (q:eY) {γ:Type} (rec kE:(List gU)->Int->Int->Int->(List gI)->Option γ) (kR:Option γ) (v0:List gU) (v1 v2 v3:Int) (v4:List gI):Option γ:=bM (N8 v0 v1 v4 v2 v3) fun y0=>bif y0.2.1 then bM (DT y0.1.1 y0.1.2.1 y0.1.2.2.1 y0.1.2.2.2.1 y0.1.2.2.2.2.1 7) fun y1=>rec y1.1.1 y1.1.2.1 y1.1.2.2.2.1 y1.1.2.2.2.2.1 y1.1.2.2.1 else kE y0.1.1 y0.1.2.1 y0.1.2.2.2.1 y0.1.2.2.2.2.1 y0.1.2.2.1
def FY (q:eY):Nat->(List gU)->Int->Int->Int->(List gI)->Option (aaf.den⊕aaT.den)
 |0,_,_,_,_,_=>none
 |n+1,v0,v1,v2,v3,v4=>Qo q (FY q n) (fun e0 e1 e2 e3 e4=>some (.inl ((),((),()),((e0,e1,e2,e3,()),e4,())))) (some (.inr ((),((),()),()))) v0 v1 v2 v3 v4
def ayH (q:eY) (n:Nat) (v:Zr.den):=FY q n v.2.2.1.1 v.2.2.1.2.1 v.2.2.1.2.2.1 v.2.2.1.2.2.2.1 v.2.2.2.1
noncomputable def ajA (q:eY):dI:=fU att Zr aaf aaT (.exit 0) (ayH q bU) 6
def Jt (q:eY) (y4:(taE×qM)):Option Bl:=bM (q.q373 y4.1.1 y4.1.2.1 y4.1.2.2.1 y4.1.2.2.2.1 y4.1.2.2.2.2.1) fun y5=>some ((y5.1.1,(y5.1.2.1,(y5.1.2.2.1,(y5.1.2.2.2.1,(y5.1.2.2.2.2.1,()))))),())
def O0 (y2:Bl) (q:eY):Option Bl:=bM (lI y2.1.1 y2.1.2.1 y2.1.2.2.1 y2.1.2.2.2.1 y2.1.2.2.2.2.1 [59]) fun y3=>bif y3.2.1 then bM (pJ y3.1.1 y3.1.2.1 y3.1.2.2.1 y3.1.2.2.2.1 y3.1.2.2.2.2.1) fun y4=>Jt q y4 else bM (pJ y3.1.1 y3.1.2.1 y3.1.2.2.1 y3.1.2.2.2.1 y3.1.2.2.2.2.1) fun y4=>bM (lI y4.1.1 y4.1.2.1 y4.1.2.2.1 y4.1.2.2.2.1 y4.1.2.2.2.2.1 [107]) fun y5=>bif y5.2.1 then bM (FY q bU y5.1.1 y5.1.2.1 y5.1.2.2.2.1 y5.1.2.2.2.2.1 y5.1.2.2.1) fun y6=>dV y6 (fun a7=>bM (lI a7.2.2.1.1 a7.2.2.1.2.1 a7.2.2.2.1 a7.2.2.1.2.2.1 a7.2.2.1.2.2.2.1 [59]) fun y8=>bM (pJ y8.1.1 y8.1.2.1 y8.1.2.2.1 y8.1.2.2.2.1 y8.1.2.2.2.2.1) fun y9=>bif(!y9.2.1)then bif(!y8.2.1)then bM (xY y9.1.1 y9.1.2.1 y9.1.2.2.1 y9.1.2.2.2.1 y9.1.2.2.2.2.1) fun y10=>bM (q.q373 y10.1.1 y10.1.2.1 y10.1.2.2.1 y10.1.2.2.2.1 y10.1.2.2.2.2.1) fun y11=>some ((y11.1.1,(y11.1.2.1,(y11.1.2.2.1,(y11.1.2.2.2.1,(y11.1.2.2.2.2.1,()))))),())else Jt q y9 else Jt q y9) (fun b7=>none)else Jt q y5
def ar9 (q:eY) (x0:List gU) (x1:Int) (x2:List gI) (x3 x4:Int):Option Bl:=bM (N8 x0 x1 x2 x3 x4) fun y0=>bif y0.2.1 then bif(gV y0.1.1 y0.1.2.1)then bM (acA (fZ y0.1.1 (0,([],(0,(0,())))) y0.1.2.1).2.1) fun y1=>bif y1.1 then bM (DT y0.1.1 y0.1.2.1 y0.1.2.2.1 y0.1.2.2.2.1 y0.1.2.2.2.2.1 7) fun y2=>O0 y2 q else bM (xY y0.1.1 y0.1.2.1 y0.1.2.2.1 y0.1.2.2.2.1 y0.1.2.2.2.2.1) fun y2=>O0 y2 q else none else bM (xY y0.1.1 y0.1.2.1 y0.1.2.2.1 y0.1.2.2.2.1 y0.1.2.2.2.2.1) fun y1=>O0 y1 q
noncomputable def afL (q:eY):Env:=ed prog tt [(157,ahh)] [(363,7,att)] [(363,7,ajA q)] [] [(184,sN),(187,Uk),(245,CW),(322,EQ),(369,Un),(373,abR q)]
def akP (q:eY) {γ:Type} (a:Zr.den->Option γ) (b:aaf.den->Option γ) (c:aaT.den->Option γ) (v:Zr.den):Option γ:=Qo q (fun v0 v1 v2 v3 v4=>a ((),((),()),((v0,v1,v2,v3,()),v4,()))) (fun e0 e1 e2 e3 e4=>b ((),((),()),((e0,e1,e2,e3,()),e4,()))) (c ((),((),()),())) v.2.2.1.1 v.2.2.1.2.1 v.2.2.1.2.2.1 v.2.2.1.2.2.2.1 v.2.2.2.1
theorem azx (q:eY):dX (afL q) 363 aqT (ajA q):=lK (akP q) (h2:=by intros;simp only[akP,Qo,dm,dn,bK,cZ,dw])
theorem aEe (q:eY):dU (afL q) 363 aBv:=qj [aqT] (aD (fM (azx q)) aN)
theorem anN (q:eY) (H:GL q):dK (afL q):=eB (aD WG aN) [363] (aD ⟨f363,aBv,by kernel_rfl,by kernel_rfl,aEe q⟩ aN) (hx:=(aD kQ (aD Gv (aD qJ (aD sS (aD Gy (aD H.2.2.2.2.2.2.2.2.2.2.2.2.2.2 aN)))))))
noncomputable def aBw:Code:=(f364.body).getD .skip
noncomputable def aqU:Code:=cA (cA (cA (cB (cB (cB (cB (cB (cA (aBw)))))))))
def atu:dZ:=⟨[0,100004],[],[0],[],[],[]⟩
def axN:dZ:=⟨[0],[],[],[],[],[]⟩
def adt:dZ:=⟨[0,2,6,7],[],[],[],[],[]⟩
def Zt:SQ:=⟨us [.ptr 0 0] 31,[[.ptr 0 0]],[.box 0 177 [.v oU,.v dD,.slc 1,.v dD,.v dD],.arr 1 pg]⟩
def aag:SQ:=⟨us [.ptr 0 0] 31,[[.ptr 0 0]],[.box 0 177 [.v oU,.v dD,.slc 1,.v dD,.v dD],.arr 1 pg]⟩
def aaU:SQ:=⟨us [] 32,[[.ptr 0 0]],[]⟩
def Qp (q:eY) {γ:Type} (rec kE:(List gU)->Int->Int->Int->(List gI)->Option γ) (kR:Option γ) (v0:List gU) (v1 v2 v3:Int) (v4:List gI):Option γ:=bM (VM v0 v1 v4 v2 v3 [40]) fun y0=>bif y0.2.1 then bif(bW 15 15)then bif(bW y0.1.2.1 y0.1.2.1)then bif(bW y0.1.2.2.2.1 y0.1.2.2.2.1)then bif(eQ (cu y0.1.2.2.1 [(15,(y0.1.2.1,(0,(y0.1.2.2.2.1,()))))]) 32)then bif(bW 15 15)then bif(bW y0.1.2.1 y0.1.2.1)then bif(bW y0.1.2.2.2.1 y0.1.2.2.2.1)then bif((bW 15 15)&&((bW y0.1.2.1 y0.1.2.1)&&((bW 0 0)&&((bW y0.1.2.2.2.1 y0.1.2.2.2.1)&&true))))then bM (q.q374 y0.1.1 y0.1.2.1 (cu y0.1.2.2.1 [(15,(y0.1.2.1,(0,(y0.1.2.2.2.1,()))))]) (bP y0.1.2.2.1) y0.1.2.2.2.2.1) fun y1=>bif(gV y1.1.2.2.1 (bP y0.1.2.2.1))then bif(oD (dG (bP y0.1.2.2.1)) y1.1.2.2.1)then bM (lI y1.1.1 y1.1.2.1 (iH y1.1.2.2.1 (dG (bP y0.1.2.2.1)) ((dL y1.1.2.2.1 (0,(0,(0,(0,())))) (dG (bP y0.1.2.2.1))).1,((dL y1.1.2.2.1 (0,(0,(0,(0,())))) (dG (bP y0.1.2.2.1))).2.1,(y1.1.2.1,((dL y1.1.2.2.1 (0,(0,(0,(0,())))) (dG (bP y0.1.2.2.1))).2.2.2.1,()))))) y0.1.2.2.2.1 y1.1.2.2.2.2.1 [121]) fun y2=>bif(!y2.2.1)then kE y2.1.1 y2.1.2.1 y2.1.2.2.2.1 y2.1.2.2.2.2.1 y2.1.2.2.1 else bM (pJ y2.1.1 y2.1.2.1 y2.1.2.2.1 y2.1.2.2.2.1 y2.1.2.2.2.2.1) fun y3=>rec y3.1.1 y3.1.2.1 y3.1.2.2.2.1 y3.1.2.2.2.2.1 y3.1.2.2.1 else none else none else none else none else none else none else none else none else none else none else bM (N8 y0.1.1 y0.1.2.1 y0.1.2.2.1 y0.1.2.2.2.1 y0.1.2.2.2.2.1) fun y1=>bif y1.2.1 then bM (xX y1.1.1 y1.1.2.1 y1.1.2.2.1 y1.1.2.2.2.1 y1.1.2.2.2.2.1 0) fun y2=>bif(!(bW y2.2.1 122))then bif(bW 15 15)then bif(bW y2.1.2.1 y2.1.2.1)then bif(bW y2.1.2.2.2.1 y2.1.2.2.2.1)then bif(eQ (cu y2.1.2.2.1 [(15,(y2.1.2.1,(0,(y2.1.2.2.2.1,()))))]) 32)then bif(bW 15 15)then bif(bW y2.1.2.1 y2.1.2.1)then bif(bW y2.1.2.2.2.1 y2.1.2.2.2.1)then bif((bW 15 15)&&((bW y2.1.2.1 y2.1.2.1)&&((bW 0 0)&&((bW y2.1.2.2.2.1 y2.1.2.2.2.1)&&true))))then bM (q.q374 y2.1.1 y2.1.2.1 (cu y2.1.2.2.1 [(15,(y2.1.2.1,(0,(y2.1.2.2.2.1,()))))]) (bP y2.1.2.2.1) y2.1.2.2.2.2.1) fun y3=>bif(gV y3.1.2.2.1 (bP y2.1.2.2.1))then bif(oD (dG (bP y2.1.2.2.1)) y3.1.2.2.1)then bM (lI y3.1.1 y3.1.2.1 (iH y3.1.2.2.1 (dG (bP y2.1.2.2.1)) ((dL y3.1.2.2.1 (0,(0,(0,(0,())))) (dG (bP y2.1.2.2.1))).1,((dL y3.1.2.2.1 (0,(0,(0,(0,())))) (dG (bP y2.1.2.2.1))).2.1,(y3.1.2.1,((dL y3.1.2.2.1 (0,(0,(0,(0,())))) (dG (bP y2.1.2.2.1))).2.2.2.1,()))))) y2.1.2.2.2.1 y3.1.2.2.2.2.1 [121]) fun y4=>bif(!y4.2.1)then kE y4.1.1 y4.1.2.1 y4.1.2.2.2.1 y4.1.2.2.2.2.1 y4.1.2.2.1 else bM (pJ y4.1.1 y4.1.2.1 y4.1.2.2.1 y4.1.2.2.2.1 y4.1.2.2.2.2.1) fun y5=>rec y5.1.1 y5.1.2.1 y5.1.2.2.2.1 y5.1.2.2.2.2.1 y5.1.2.2.1 else none else none else none else none else none else none else none else none else none else none else kE y2.1.1 y2.1.2.1 y2.1.2.2.2.1 y2.1.2.2.2.2.1 y2.1.2.2.1 else kE y1.1.1 y1.1.2.1 y1.1.2.2.2.1 y1.1.2.2.2.2.1 y1.1.2.2.1
def FZ (q:eY):Nat->(List gU)->Int->Int->Int->(List gI)->Option (aag.den⊕aaU.den)
 |0,_,_,_,_,_=>none
 |n+1,v0,v1,v2,v3,v4=>Qp q (FZ q n) (fun e0 e1 e2 e3 e4=>some (.inl ((),((),()),((e0,e1,e2,e3,()),e4,())))) (some (.inr ((),((),()),()))) v0 v1 v2 v3 v4
def ayI (q:eY) (n:Nat) (v:Zt.den):=FZ q n v.2.2.1.1 v.2.2.1.2.1 v.2.2.1.2.2.1 v.2.2.1.2.2.2.1 v.2.2.2.1
noncomputable def ajB (q:eY):dI:=fU atu Zt aag aaU (.exit 0) (ayI q bU) 6
def asa (q:eY) (x0:List gU) (x1:Int) (x2:List gI) (x3 x4:Int):Option Bl:=bM (N7 x0 x1 x2 x3 x4) fun y0=>bM (pJ y0.1.1 y0.1.2.1 y0.1.2.2.1 y0.1.2.2.2.1 y0.1.2.2.2.2.1) fun y1=>bM (rJ y1.1.1 y1.1.2.1 y1.1.2.2.1 y1.1.2.2.2.1 y1.1.2.2.2.2.1 [107]) fun y2=>bM (pJ y2.1.1 y2.1.2.1 y2.1.2.2.1 y2.1.2.2.2.1 y2.1.2.2.2.2.1) fun y3=>bM (FZ q bU y3.1.1 y3.1.2.1 y3.1.2.2.2.1 y3.1.2.2.2.2.1 y3.1.2.2.1) fun y4=>dV y4 (fun a5=>bM (rJ a5.2.2.1.1 a5.2.2.1.2.1 a5.2.2.2.1 a5.2.2.1.2.2.1 a5.2.2.1.2.2.2.1 [122]) fun y6=>some ((y6.1.1,(y6.1.2.1,(y6.1.2.2.1,(y6.1.2.2.2.1,(y6.1.2.2.2.2.1,()))))),())) (fun b5=>none)
noncomputable def afM (q:eY):Env:=ed prog tt [] [(364,4,atu),(364,600005,axN),(119,600003,adt)] [(364,4,ajB q)] [] [(184,sN),(241,abK),(242,EP),(245,CW),(367,Um),(368,ER),(369,Un),(374,alf q)]
def akQ (q:eY) {γ:Type} (a:Zt.den->Option γ) (b:aag.den->Option γ) (c:aaU.den->Option γ) (v:Zt.den):Option γ:=Qp q (fun v0 v1 v2 v3 v4=>a ((),((),()),((v0,v1,v2,v3,()),v4,()))) (fun e0 e1 e2 e3 e4=>b ((),((),()),((e0,e1,e2,e3,()),e4,()))) (c ((),((),()),())) v.2.2.1.1 v.2.2.1.2.1 v.2.2.1.2.2.1 v.2.2.1.2.2.2.1 v.2.2.2.1
theorem azy (q:eY):dX (afM q) 364 aqU (ajB q):=lK (akQ q) (h2:=by intros;simp only[akQ,Qp,dm,dn,bK,cZ,dw])
theorem aEf (q:eY):dU (afM q) 364 aBw:=qj [aqU] (aD (fM (azy q)) aN)
theorem anO (q:eY) (H:GL q):dK (afM q):=eB aN [364] (aD ⟨f364,aBw,by kernel_rfl,by kernel_rfl,aEf q⟩ aN) (hx:=(aD kQ (aD NG (aD sQ (aD qJ (aD Gx (aD sU (aD Gy (aD H.2.2.2.2.2.2.2.2.2.2.2.2.2.1 aN)))))))))
noncomputable def aBx:Code:=(f374.body).getD .skip
noncomputable def aqV:Code:=cA (cA (cA (cB (cB (aBx)))))
def atv:dZ:=⟨[0,100002],[],[0],[],[],[]⟩
def axQ:dZ:=⟨[0],[],[],[],[],[]⟩
def adx:dZ:=⟨[0,2,6,7],[],[],[],[],[]⟩
def Zu:SQ:=⟨us [.ptr 0 0] 19,[[.ptr 0 0]],[.box 0 177 [.v oU,.v dD,.slc 1,.v dD,.v dD],.arr 1 pg]⟩
def aah:SQ:=⟨us [.ptr 0 0] 19,[[.ptr 0 0]],[.box 0 177 [.v oU,.v dD,.slc 1,.v dD,.v dD],.arr 1 pg]⟩
def aaV:SQ:=⟨us [] 20,[[.ptr 0 0]],[]⟩
def Qq (q:eY) {γ:Type} (rec kE:(List gU)->Int->Int->Int->(List gI)->Option γ) (kR:Option γ) (v0:List gU) (v1 v2 v3:Int) (v4:List gI):Option γ:=bM (lI v0 v1 v4 v2 v3 [124]) fun y0=>bif y0.2.1 then bM (N7 y0.1.1 y0.1.2.1 y0.1.2.2.1 y0.1.2.2.2.1 y0.1.2.2.2.2.1) fun y1=>rec y1.1.1 y1.1.2.1 y1.1.2.2.2.1 y1.1.2.2.2.2.1 y1.1.2.2.1 else kE y0.1.1 y0.1.2.1 y0.1.2.2.2.1 y0.1.2.2.2.2.1 y0.1.2.2.1
def J3 (q:eY):Nat->(List gU)->Int->Int->Int->(List gI)->Option (aah.den⊕aaV.den)
 |0,_,_,_,_,_=>none
 |n+1,v0,v1,v2,v3,v4=>Qq q (J3 q n) (fun e0 e1 e2 e3 e4=>some (.inl ((),((),()),((e0,e1,e2,e3,()),e4,())))) (some (.inr ((),((),()),()))) v0 v1 v2 v3 v4
def ayJ (q:eY) (n:Nat) (v:Zu.den):=J3 q n v.2.2.1.1 v.2.2.1.2.1 v.2.2.1.2.2.1 v.2.2.1.2.2.2.1 v.2.2.2.1
noncomputable def ajC (q:eY):dI:=fU atv Zu aah aaV (.exit 0) (ayJ q bU) 6
def ase (q:eY) (x0:List gU) (x1:Int) (x2:List gI) (x3 x4:Int):Option Bl:=bM (lI x0 x1 x2 x3 x4 [40]) fun y0=>bM (N7 y0.1.1 y0.1.2.1 y0.1.2.2.1 y0.1.2.2.2.1 y0.1.2.2.2.2.1) fun y1=>bM (J3 q bU y1.1.1 y1.1.2.1 y1.1.2.2.2.1 y1.1.2.2.2.2.1 y1.1.2.2.1) fun y2=>dV y2 (fun a3=>bM (rJ a3.2.2.1.1 a3.2.2.1.2.1 a3.2.2.2.1 a3.2.2.1.2.2.1 a3.2.2.1.2.2.2.1 [41]) fun y4=>bM (pJ y4.1.1 y4.1.2.1 y4.1.2.2.1 y4.1.2.2.2.1 y4.1.2.2.2.2.1) fun y5=>bM (JA y5.1.1 y5.1.2.1 y5.1.2.2.1 y5.1.2.2.2.1 y5.1.2.2.2.2.1) fun y6=>bif y6.2.1 then bif(bW 2 2)then bif(bW y6.1.2.1 y6.1.2.1)then bif(bW y6.1.2.2.2.1 y6.1.2.2.2.1)then bif(eQ (cu y6.1.2.2.1 [(2,(y6.1.2.1,(0,(y6.1.2.2.2.1,()))))]) 32)then bif(bW 2 2)then bif(bW y6.1.2.1 y6.1.2.1)then bif(bW y6.1.2.2.2.1 y6.1.2.2.2.1)then bif((bW 2 2)&&((bW y6.1.2.1 y6.1.2.1)&&((bW 0 0)&&((bW y6.1.2.2.2.1 y6.1.2.2.2.1)&&true))))then bM (q.q186 y6.1.1 y6.1.2.1 (cu y6.1.2.2.1 [(2,(y6.1.2.1,(0,(y6.1.2.2.2.1,()))))]) (bP y6.1.2.2.1) y6.1.2.2.2.2.1) fun y7=>bif(gV y7.1.2.2.1 (bP y6.1.2.2.1))then bif(oD (dG (bP y6.1.2.2.1)) y7.1.2.2.1)then some ((y7.1.1,(y7.1.2.1,((iH y7.1.2.2.1 (dG (bP y6.1.2.2.1)) ((dL y7.1.2.2.1 (0,(0,(0,(0,())))) (dG (bP y6.1.2.2.1))).1,((dL y7.1.2.2.1 (0,(0,(0,(0,())))) (dG (bP y6.1.2.2.1))).2.1,(y7.1.2.1,((dL y7.1.2.2.1 (0,(0,(0,(0,())))) (dG (bP y6.1.2.2.1))).2.2.2.1,()))))),(y6.1.2.2.2.1,(y7.1.2.2.2.2.1,()))))),())else none else none else none else none else none else none else none else none else none else none else some ((y6.1.1,(y6.1.2.1,(y6.1.2.2.1,(y6.1.2.2.2.1,(y6.1.2.2.2.2.1,()))))),())) (fun b3=>none)
noncomputable def afN (q:eY):Env:=ed prog tt [] [(374,2,atv),(374,600007,axQ),(119,600003,adx)] [(374,2,ajC q)] [] [(184,sN),(185,NC),(186,abH q),(245,CW),(367,Um),(368,ER)]
def akR (q:eY) {γ:Type} (a:Zu.den->Option γ) (b:aah.den->Option γ) (c:aaV.den->Option γ) (v:Zu.den):Option γ:=Qq q (fun v0 v1 v2 v3 v4=>a ((),((),()),((v0,v1,v2,v3,()),v4,()))) (fun e0 e1 e2 e3 e4=>b ((),((),()),((e0,e1,e2,e3,()),e4,()))) (c ((),((),()),())) v.2.2.1.1 v.2.2.1.2.1 v.2.2.1.2.2.1 v.2.2.1.2.2.2.1 v.2.2.2.1
theorem azz (q:eY):dX (afN q) 374 aqV (ajC q):=lK (akR q) (h2:=by intros;simp only[akR,Qq,dm,dn,bK,cZ,dw])
theorem aEg (q:eY):dU (afN q) 374 aBx:=qj [aqV] (aD (fM (azz q)) aN)
theorem anW (q:eY) (H:GL q):dK (afN q):=eB aN [374] (aD ⟨f374,aBx,by kernel_rfl,by kernel_rfl,aEg q⟩ aN) (hx:=(aD kQ (aD Bc (aD H.1 (aD qJ (aD Gx (aD sU aN)))))))
def asc (q:eY) (x0:List gU) (x1:Int) (x2:List gI) (x3 x4:Int):Option Bl:=bM (rJ x0 x1 x2 x3 x4 [100]) fun y0=>bM (q.q372 y0.1.1 y0.1.2.1 y0.1.2.2.1 y0.1.2.2.2.1 y0.1.2.2.2.2.1) fun y1=>bM (rJ y1.1.1 y1.1.2.1 y1.1.2.2.1 y1.1.2.2.2.1 y1.1.2.2.2.2.1 [103]) fun y2=>some ((y2.1.1,(y2.1.2.1,(y2.1.2.2.1,(y2.1.2.2.2.1,(y2.1.2.2.2.2.1,()))))),())
noncomputable def aC7 (q:eY):Env:=ed prog tt [] [] [] [] [(368,ER),(372,Gz q)]
theorem anV (q:eY) (H:GL q):dK (aC7 q):=eB aN [] aN (hx:=(aD sU (aD H.2.2.2.2.2.2.1 aN)))
def fD:Nat->eY
 |0=>⟨(fun _ _ _ _ _=>none),(fun _ _ _ _ _=>none),(fun _ _ _ _ _=>none),(fun _ _ _ _ _=>none),(fun _ _ _ _ _=>none),(fun _ _ _ _ _=>none),(fun _ _ _ _ _=>none),(fun _ _ _ _ _=>none),(fun _ _ _ _ _=>none),(fun _ _ _ _ _=>none),(fun _ _ _ _ _=>none),(fun _ _ _ _ _=>none),(fun _ _ _ _ _=>none),(fun _ _ _ _ _=>none),(fun _ _ _ _ _=>none)⟩
 |r+1=>⟨arT (fD r),arV (fD r),acu (fD r),arY (fD r),arZ (fD r),Aa (fD r),asb (fD r),ar5 (fD r),ar6 (fD r),ar7 (fD r),ar8 (fD r),ar9 (fD r),asa (fD r),ase (fD r),asc (fD r)⟩
def asn (x0:List gU) (x1:Int) (x2:List gI) (x3 x4:Int):Option Bl:=(fD bU).q186 x0 x1 x2 x3 x4
def avq:gX:=⟨177,GU,[],[],fun x y=>asn x.1 x.2.1 x.2.2.1 x.2.2.2.1 x.2.2.2.2.1⟩
theorem aj6: ∀r,GL (fD r)
 |0=>⟨nU fun _ _=>rfl,nU fun _ _=>rfl,nU fun _ _=>rfl,nU fun _ _=>rfl,nU fun _ _=>rfl,nU fun _ _=>rfl,nU fun _ _=>rfl,nU fun _ _=>rfl,nU fun _ _=>rfl,nU fun _ _=>rfl,nU fun _ _=>rfl,nU fun _ _=>rfl,nU fun _ _=>rfl,nU fun _ _=>rfl,nU fun _ _=>rfl⟩
 |r+1=>by
  have ih:=aj6 r;exact⟨sB (amc (fD r) ih),
   sB (amH (fD r) ih),
   sB (anb (fD r) ih),
   sB (anp (fD r) ih),
   sB (anC (fD r) ih),
   sB (anA (fD r) ih),
   sB (anU (fD r) ih),
   sB (anJ (fD r) ih),
   sB (anK (fD r) ih),
   sB (anL (fD r) ih),
   sB (anM (fD r) ih),
   sB (anN (fD r) ih),
   sB (anO (fD r) ih),
   sB (anW (fD r) ih),
   sB (anV (fD r) ih)⟩
theorem aoY:eF prog 186 avq:=(aj6 bU).1
noncomputable def aBh:Code:=(f120.body).getD .skip
noncomputable def aqe:Code:=cA (cA (cB (aBh)))
def asK:dZ:=⟨[0,2,100001],[],[],[],[],[]⟩
def axu:dZ:=⟨[0],[],[],[],[],[]⟩
def ac7:dZ:=⟨[0,2,6,7],[],[],[],[],[]⟩
def YN:SQ:=⟨us [.ptr 0 0,.u,.v .bool] 26,[[.ptr 0 0]],[.box 0 177 [.v oU,.v dD,.slc 1,.v dD,.v dD],.arr 1 pg]⟩
def Zy:SQ:=⟨us [] 29,[[.ptr 0 0]],[.box 0 177 [.v oU,.v dD,.slc 1,.v dD,.v dD],.arr 1 pg]⟩
def aak:SQ:=⟨us [] 29,[[.ptr 0 0]],[]⟩
def PP {γ:Type} (rec:Bool->(List gU)->Int->Int->Int->(List gI)->Option γ) (kE:(List gU)->Int->Int->Int->(List gI)->Option γ) (kR:Option γ) (v0:Bool) (v1:List gU) (v2 v3 v4:Int) (v5:List gI):Option γ:=bif(iG v2 (bP v1))then bM (lI v1 v2 v5 v3 v4 [110]) fun y0=>bif y0.2.1 then rec v0 y0.1.1 y0.1.2.1 y0.1.2.2.2.1 y0.1.2.2.2.2.1 y0.1.2.2.1 else bif(!v0)then bM (JA y0.1.1 y0.1.2.1 y0.1.2.2.1 y0.1.2.2.2.1 y0.1.2.2.2.2.1) fun y1=>bif y1.2.1 then bif(bW 2 2)then bif(bW y1.1.2.1 y1.1.2.1)then bif(bW y1.1.2.2.2.1 y1.1.2.2.2.1)then bif(eQ (cu y1.1.2.2.1 [(2,(y1.1.2.1,(0,(y1.1.2.2.2.1,()))))]) 32)then bif(bW 2 2)then bif(bW y1.1.2.1 y1.1.2.1)then bif(bW y1.1.2.2.2.1 y1.1.2.2.2.1)then bif((bW 2 2)&&((bW y1.1.2.1 y1.1.2.1)&&((bW 0 0)&&((bW y1.1.2.2.2.1 y1.1.2.2.2.1)&&true))))then bM (asn y1.1.1 y1.1.2.1 (cu y1.1.2.2.1 [(2,(y1.1.2.1,(0,(y1.1.2.2.2.1,()))))]) (bP y1.1.2.2.1) y1.1.2.2.2.2.1) fun y2=>bif(gV y2.1.2.2.1 (bP y1.1.2.2.1))then bif(oD (dG (bP y1.1.2.2.1)) y2.1.2.2.1)then rec true y2.1.1 y2.1.2.1 y1.1.2.2.2.1 y2.1.2.2.2.2.1 (iH y2.1.2.2.1 (dG (bP y1.1.2.2.1)) ((dL y2.1.2.2.1 (0,(0,(0,(0,())))) (dG (bP y1.1.2.2.1))).1,((dL y2.1.2.2.1 (0,(0,(0,(0,())))) (dG (bP y1.1.2.2.1))).2.1,(y2.1.2.1,((dL y2.1.2.2.1 (0,(0,(0,(0,())))) (dG (bP y1.1.2.2.1))).2.2.2.1,())))))else none else none else none else none else none else none else none else none else none else none else bM (DT y1.1.1 y1.1.2.1 y1.1.2.2.1 y1.1.2.2.2.1 y1.1.2.2.2.2.1 17) fun y2=>rec false y2.1.1 y2.1.2.1 y2.1.2.2.2.1 y2.1.2.2.2.2.1 y2.1.2.2.1 else bM (DT y0.1.1 y0.1.2.1 y0.1.2.2.1 y0.1.2.2.2.1 y0.1.2.2.2.2.1 17) fun y1=>rec false y1.1.1 y1.1.2.1 y1.1.2.2.2.1 y1.1.2.2.2.2.1 y1.1.2.2.1 else kE v1 v2 v3 v4 v5
def FB:Nat->Bool->(List gU)->Int->Int->Int->(List gI)->Option (Zy.den⊕aak.den)
 |0,_,_,_,_,_,_=>none
 |n+1,v0,v1,v2,v3,v4,v5=>PP (FB n) (fun e0 e1 e2 e3 e4=>some (.inl ((),((),()),((e0,e1,e2,e3,()),e4,())))) (some (.inr ((),((),()),()))) v0 v1 v2 v3 v4 v5
def ax3 (n:Nat) (v:YN.den):=FB n v.1.1 v.2.2.1.1 v.2.2.1.2.1 v.2.2.1.2.2.1 v.2.2.1.2.2.2.1 v.2.2.2.1
noncomputable def aiW:dI:=fU asK YN Zy aak (.exit 0) (ax3 bU) 6
def asj (x0:List gU) (x1:Int) (x2:List gI) (x3 x4:Int):Option Bl:=bM (FB bU false x0 x1 x3 x4 x2) fun y0=>dV y0 (fun a1=>some ((a1.2.2.1.1,(a1.2.2.1.2.1,(a1.2.2.2.1,(a1.2.2.1.2.2.1,(a1.2.2.1.2.2.2.1,()))))),())) (fun b1=>none)
def ava:gX:=⟨177,GU,[],[],fun x y=>asj x.1 x.2.1 x.2.2.1 x.2.2.2.1 x.2.2.2.2.1⟩
noncomputable def afe:Env:=ed prog tt [] [(120,1,asK),(120,600006,axu),(119,600003,ac7)] [(120,1,aiW)] [] [(184,sN),(185,NC),(186,avq),(187,Uk)]
def akb {γ:Type} (a:YN.den->Option γ) (b:Zy.den->Option γ) (c:aak.den->Option γ) (v:YN.den):Option γ:=PP (fun v0 v1 v2 v3 v4 v5=>a ((v0,()),((),()),((v1,v2,v3,v4,()),v5,()))) (fun e0 e1 e2 e3 e4=>b ((),((),()),((e0,e1,e2,e3,()),e4,()))) (c ((),((),()),())) v.1.1 v.2.2.1.1 v.2.2.1.2.1 v.2.2.1.2.2.1 v.2.2.1.2.2.2.1 v.2.2.2.1
theorem ayT:dX afe 120 aqe aiW:=lK (akb) (h2:=by intros;simp only[akb,PP,dm,dn,bK,cZ,dw])
theorem aDz:dU afe 120 aBh:=qj [aqe] (aD (fM (ayT)) aN)
theorem alH:dK afe:=eB aN [120] (aD ⟨f120,aBh,by kernel_rfl,by kernel_rfl,aDz⟩ aN) (hx:=(aD kQ (aD Bc (aD aoY (aD Gv aN)))))
theorem aoI:eF prog 120 ava:=sB alH
def aDn:dZ:=⟨[3],[],[],[],[],[]⟩
def agd:dZ:=⟨[0,2,6,7],[],[],[],[],[]⟩
def an5 (x0:List gU):Option ((List gI)×Unit):=bif(bW 1 1)then bif(bW 0 0)then bif(bW (-1) (-1))then bif(eQ [(1,(0,(0,((-1),()))))] 32)then bif(bW 1 1)then bif(bW 0 0)then bif(bW (-1) (-1))then bif((bW 1 1)&&((bW 0 0)&&((bW 0 0)&&((bW (-1) (-1))&&true))))then bM (asj x0 0 [(1,(0,(0,((-1),()))))] 0 0) fun y0=>bif(gV y0.1.2.2.1 0)then bif(oD (dG 0) y0.1.2.2.1)then some ((iH y0.1.2.2.1 (dG 0) ((dL y0.1.2.2.1 (0,(0,(0,(0,())))) (dG 0)).1,((dL y0.1.2.2.1 (0,(0,(0,(0,())))) (dG 0)).2.1,(y0.1.2.1,((dL y0.1.2.2.1 (0,(0,(0,(0,())))) (dG 0)).2.2.2.1,()))))),())else none else none else none else none else none else none else none else none else none else none
def awl:Sum:=⟨[oU],[(.list pg,false)],fun x=>an5 x.1⟩
noncomputable def aFP:Env:=ed prog tt [] [(62,600002,aDn),(119,600003,agd)] [] [] [(120,ava)]
theorem ars:dK aFP:=eB aN [] aN (hx:=(aD aoI aN))
theorem aeO:dY prog 62 awl:=sA ars
noncomputable def aFq:Code:=(f145.body).getD .skip
noncomputable def aqh:Code:=cA (cA (cB (cA (cB (cB (cB (aFq)))))))
def asN:dZ:=⟨[3,4,100005],[],[],[],[2],[]⟩
def YQ:SP:=⟨us [.u,.u,.u,.v .str,.v dD] 25,[]⟩
def ZA:SP:=⟨us [] 30,[]⟩
def aam:SP:=⟨us [.u,.u,.v .bool] 27,[]⟩
def PS {γ:Type} (rec:di->Int->Option γ) (kE:Option γ) (kR:Bool->Option γ) (v0:di) (v1:Int):Option γ:=bif(leI (dA .i64 v1 (bP v0)) 65)then bif(gm (bP [32,33,32,123,32,125,32,99,97,115,101,32,100,111,32,100,111,110,101,32,101,108,105,102,32,101,108,115,101,32,101,115,97,99,32,102,105,32,102,111,114,32,105,102,32,105,110,32,116,104,101,110,32,117,110,116,105,108,32,119,104,105,108,101,32]) v1 (dA .i64 v1 (bP v0)))then bif(iq (sub [32,33,32,123,32,125,32,99,97,115,101,32,100,111,32,100,111,110,101,32,101,108,105,102,32,101,108,115,101,32,101,115,97,99,32,102,105,32,102,111,114,32,105,102,32,105,110,32,116,104,101,110,32,117,110,116,105,108,32,119,104,105,108,101,32] v1 (dA .i64 v1 (bP v0))) v0)then kR true else rec v0 (dA .i64 v1 1)else none else kE
def JP:Nat->di->Int->Option (ZA.den⊕aam.den)
 |0,_,_=>none
 |n+1,v0,v1=>PS (JP n) (some (.inl ((),()))) (fun r0=>some (.inr ((r0,()),()))) v0 v1
def ax6 (n:Nat) (v:YQ.den):=JP n v.1.1 v.1.2.1
noncomputable def aiZ:dI:=gQ asN YQ ZA aam (.exit 0) (ax6 bU) 6
def ah6 (x0:di):Option qM:=bif(bW (bP x0) 0)then some (false,())else bM (LZ 32 x0) fun y0=>bif y0.1 then some (false,())else bif(iU [32] x0)then bif(iU (cu [32] x0) [32])then bM (JP bU (cu (cu [32] x0) [32]) 0) fun y1=>dV y1 (fun a2=>some (false,())) (fun b2=>some (b2.1.1,()))else none else none
def ave:Sum:=⟨[.str],tzE,fun x=>ah6 x.1⟩
noncomputable def afh:Env:=gp prog tt 145 [(91,aeP)] [(5,asN)] [(5,aiZ)]
def ake {γ:Type} (a:YQ.den->Option γ) (b:ZA.den->Option γ) (c:aam.den->Option γ) (v:YQ.den):Option γ:=PS (fun v0 v1=>a ((v0,v1,()),())) (b ((),())) (fun r0=>c ((r0,()),())) v.1.1 v.1.2.1
theorem ayW:dX afh 145 aqh aiZ:=Bi (ake) (h2:=by intros;simp only[ake,PS,dm,dn,bK,cZ,dw])
theorem aDD:dU afh 145 aFq:=qj [aqh] (aD (fM (ayW)) aN)
theorem alR:dK afh:=eA f145 (aD Lt aN) (aDD)
theorem aoM:dY prog 145 ave:=sA alR
noncomputable def aFp:Code:=(f125.body).getD .skip
noncomputable def aqf:Code:=cA (cA (cB (cA (cA (cB (cA (cB (cB (cB (aFp))))))))))
def asL:dZ:=⟨[1,3,100007],[],[],[],[2],[]⟩
def YO:SP:=⟨us [.u,.ptr 1000001 0,.u,.v dD] 59,[.box 1000001 105 [.v dD,.v .str,.v dD,.v dD]]⟩
def Zz:SP:=⟨us [] 63,[]⟩
def aal:SP:=⟨us [.u,.u,.v .str] 60,[]⟩
def PQ {γ:Type} (rec:Int->Int->di->Int->Int->Option γ) (kE:Option γ) (kR:di->Option γ) (v0 v1:Int) (v2:di) (v3 v4:Int):Option γ:=bif(leI v0 17)then bM (Jy v0) fun y0=>bif(iq y0.1 v2)then bif(gm (bP [97,111,121,60,60,60,60,60,60,60,60,60,38,59,124,40,41]) (eG .i64 v0 1) v0)then kR (sub [97,111,121,60,60,60,60,60,60,60,60,60,38,59,124,40,41] (eG .i64 v0 1) v0)else none else rec (dA .i64 v0 1) v1 v2 v3 v4 else kE
def JO:Nat->Int->Int->di->Int->Int->Option (Zz.den⊕aal.den)
 |0,_,_,_,_,_=>none
 |n+1,v0,v1,v2,v3,v4=>PQ (JO n) (some (.inl ((),()))) (fun r0=>some (.inr ((r0,()),()))) v0 v1 v2 v3 v4
def ax4 (n:Nat) (v:YO.den):=JO n v.1.1 v.2.1.1 v.2.1.2.1 v.2.1.2.2.1 v.2.1.2.2.2.1
noncomputable def aiX:dI:=gQ asL YO Zz aal (.exit 0) (ax4 bU) 6
def Ad (x0:gU):Option (di×Unit):=bif(bW x0.1 2)then some ([110],())else bif(bW x0.1 5)then some ([35],())else bif(bW x0.1 4)then bM (JO bU 1 x0.1 x0.2.1 x0.2.2.1 x0.2.2.2.1) fun y0=>dV y0 (fun a1=>some ([63],())) (fun b1=>some (b1.1.1,()))else bif(!(bW x0.1 6))then some ([63],())else bM (ah6 x0.2.1) fun y0=>bif(!y0.1)then some ([120],())else bif(bW (bP x0.2.1) 1)then some (x0.2.1,())else bif(iq x0.2.1 [105,102])then some ([105],())else bif(iq x0.2.1 [105,110])then some ([107],())else bif(iq x0.2.1 [101,108,115,101])then some ([108],())else bif(iq x0.2.1 [101,115,97,99])then some ([122],())else bif(iq x0.2.1 [102,111,114])then some ([114],())else bif(iq x0.2.1 [100,111,110,101])then some ([103],())else bif(iq x0.2.1 [117,110,116,105,108])then some ([119],())else bif(gm (bP x0.2.1) 0 1)then some ((sub x0.2.1 0 1),())else none
def avb:Sum:=⟨[tyD],tzI,fun x=>Ad x.1⟩
noncomputable def aff:Env:=gp prog tt 125 [(145,ave),(151,abC)] [(7,asL)] [(7,aiX)]
def akc {γ:Type} (a:YO.den->Option γ) (b:Zz.den->Option γ) (c:aal.den->Option γ) (v:YO.den):Option γ:=PQ (fun v0 v1 v2 v3 v4=>a ((v0,()),((v1,v2,v3,v4,()),()))) (b ((),())) (fun r0=>c ((r0,()),())) v.1.1 v.2.1.1 v.2.1.2.1 v.2.1.2.2.1 v.2.1.2.2.2.1
theorem ayU:dX aff 125 aqf aiX:=Bi (akc) (h2:=by intros;simp only[akc,PQ,dm,dn,bK,cZ,dw])
theorem aDB:dU aff 125 aFp:=qj [aqf] (aD (fM (ayU)) aN)
theorem alJ:dK aff:=eA f125 (aD aoM (aD Nv aN)) (aDB)
theorem aoJ:dY prog 125 avb:=sA alJ
def acB (x0:Int):Option qM:=bif(leI 9 x0)then bif(leI x0 14)then some (true,())else some ((bW x0 16),())else some ((bW x0 16),())
def ahj:Sum:=⟨[dD],tzE,fun x=>acB x.1⟩
noncomputable def aB3:Env:=gp prog tt 198 [] [] []
theorem ame:dK aB3:=eA f198 aN
theorem WI:dY prog 198 ahj:=sA ame
def rH (x0:List gU) (x1:di) (x2:List gI) (x3 x4 x5 x6:Int):Option (taF×Di):=bif(bW x6 x6)then bif(bW x3 x3)then bif(bW x4 x4)then bif(eQ (cu x2 [(x6,(x3,(0,(x4,()))))]) 32)then bif(bW x6 x6)then bif(bW x3 x3)then bif(bW x4 x4)then bif((bW x6 x6)&&((bW x3 x3)&&((bW 0 0)&&((bW x4 x4)&&true))))then bM (acB x6) fun y0=>bif y0.1 then some ((x0,(x1,((cu x2 [(x6,(x3,(0,(x4,()))))]),(x3,((eG .i64 (bP (cu x2 [(x6,(x3,(0,(x4,()))))])) 1),((dA .i64 x5 1),())))))),(x4,()))else some ((x0,(x1,((cu x2 [(x6,(x3,(0,(x4,()))))]),(x3,((eG .i64 (bP (cu x2 [(x6,(x3,(0,(x4,()))))])) 1),(x5,())))))),(x4,()))else none else none else none else none else none else none else none else none
def xA:gX:=⟨185,UC,[dD],[dD],fun x y=>rH x.1 x.2.1 x.2.2.1 x.2.2.2.1 x.2.2.2.2.1 x.2.2.2.2.2.1 y.1⟩
noncomputable def aBK:Env:=ed prog tt [(198,ahj)] [] [] []
theorem alK:dK aBK:=eB (aD WI aN) [] aN
theorem nD:eF prog 126 xA:=sB alK
def jF (x0:List gU) (x1:di) (x2:List gI) (x3 x4 x5:Int) (x6:di):Option (taF×qM):=bif(iG x3 (bP x1))then bif(gV x1 x3)then bM (LZ (cO x1 x3) x6) fun y0=>some ((x0,(x1,(x2,(x3,(x4,(x5,())))))),(y0.1,()))else none else some ((x0,(x1,(x2,(x3,(x4,(x5,())))))),(false,()))
def o9:gX:=⟨185,UC,[.str],[.bool],fun x y=>jF x.1 x.2.1 x.2.2.1 x.2.2.2.1 x.2.2.2.2.1 x.2.2.2.2.2.1 y.1⟩
noncomputable def aBL:Env:=ed prog tt [(91,aeP)] [] [] []
theorem alL:dK aBL:=eB (aD Lt aN) [] aN
theorem jE:eF prog 127 o9:=sB alL
def VN (x0:List gU) (x1:di) (x2:List gI) (x3 x4 x5:Int):Option (taF×qM):=bM (jF x0 x1 x2 x3 x4 x5 [60]) fun y0=>bif y0.2.1 then some ((y0.1.1,(y0.1.2.1,(y0.1.2.2.1,(y0.1.2.2.2.1,(y0.1.2.2.2.2.1,(y0.1.2.2.2.2.2.1,())))))),(true,()))else bM (jF y0.1.1 y0.1.2.1 y0.1.2.2.1 y0.1.2.2.2.1 y0.1.2.2.2.2.1 y0.1.2.2.2.2.2.1 [35]) fun y1=>bif y1.2.1 then bif(iG (dA .i64 y1.1.2.2.2.1 1) (bP y1.1.2.1))then bif(gV y1.1.2.1 (dA .i64 y1.1.2.2.2.1 1))then some ((y1.1.1,(y1.1.2.1,(y1.1.2.2.1,(y1.1.2.2.2.1,(y1.1.2.2.2.2.1,(y1.1.2.2.2.2.2.1,())))))),((bW (cO y1.1.2.1 (dA .i64 y1.1.2.2.2.1 1)) 60),()))else none else some ((y1.1.1,(y1.1.2.1,(y1.1.2.2.1,(y1.1.2.2.2.1,(y1.1.2.2.2.2.1,(y1.1.2.2.2.2.2.1,())))))),(false,()))else some ((y1.1.1,(y1.1.2.1,(y1.1.2.2.1,(y1.1.2.2.2.1,(y1.1.2.2.2.2.1,(y1.1.2.2.2.2.2.1,())))))),(false,()))
def abL:gX:=⟨185,UC,[],[.bool],fun x y=>VN x.1 x.2.1 x.2.2.1 x.2.2.2.1 x.2.2.2.2.1 x.2.2.2.2.2.1⟩
noncomputable def aCn:Env:=ed prog tt [] [] [] [] [(127,o9)]
theorem amJ:dK aCn:=eB aN [] aN (hx:=(aD jE aN))
theorem NH:eF prog 252 abL:=sB amJ
def RD (x0:List gU) (x1:di) (x2:List gI) (x3 x4 x5:Int):Option (taF×qM):=bM (jF x0 x1 x2 x3 x4 x5 [123,40,105,119,114,99]) fun y0=>bif y0.2.1 then some ((y0.1.1,(y0.1.2.1,(y0.1.2.2.1,(y0.1.2.2.2.1,(y0.1.2.2.2.2.1,(y0.1.2.2.2.2.2.1,())))))),((iG y0.1.2.2.2.2.2.1 200),()))else some ((y0.1.1,(y0.1.2.1,(y0.1.2.2.1,(y0.1.2.2.2.1,(y0.1.2.2.2.2.1,(y0.1.2.2.2.2.2.1,())))))),(false,()))
def ahq:gX:=⟨185,UC,[],[.bool],fun x y=>RD x.1 x.2.1 x.2.2.1 x.2.2.2.1 x.2.2.2.2.1 x.2.2.2.2.2.1⟩
noncomputable def aCo:Env:=ed prog tt [] [] [] [] [(127,o9)]
theorem amK:dK aCo:=eB aN [] aN (hx:=(aD jE aN))
theorem WQ:eF prog 253 ahq:=sB amK
def acC (x0:List gU) (x1:di) (x2:List gI) (x3 x4 x5:Int):Option (taF×qM):=bM (jF x0 x1 x2 x3 x4 x5 [120]) fun y0=>bif y0.2.1 then some ((y0.1.1,(y0.1.2.1,(y0.1.2.2.1,(y0.1.2.2.2.1,(y0.1.2.2.2.2.1,(y0.1.2.2.2.2.2.1,())))))),(true,()))else bM (VN y0.1.1 y0.1.2.1 y0.1.2.2.1 y0.1.2.2.2.1 y0.1.2.2.2.2.1 y0.1.2.2.2.2.2.1) fun y1=>bif y1.2.1 then some ((y1.1.1,(y1.1.2.1,(y1.1.2.2.1,(y1.1.2.2.2.1,(y1.1.2.2.2.2.1,(y1.1.2.2.2.2.2.1,())))))),(true,()))else bM (RD y1.1.1 y1.1.2.1 y1.1.2.2.1 y1.1.2.2.2.1 y1.1.2.2.2.2.1 y1.1.2.2.2.2.2.1) fun y2=>some ((y2.1.1,(y2.1.2.1,(y2.1.2.2.1,(y2.1.2.2.2.1,(y2.1.2.2.2.2.1,(y2.1.2.2.2.2.2.1,())))))),(y2.2.1,()))
def ahk:gX:=⟨185,UC,[],[.bool],fun x y=>acC x.1 x.2.1 x.2.2.1 x.2.2.2.1 x.2.2.2.2.1 x.2.2.2.2.2.1⟩
noncomputable def aB4:Env:=ed prog tt [] [] [] [] [(127,o9),(252,abL),(253,ahq)]
theorem amf:dK aB4:=eB aN [] aN (hx:=(aD jE (aD NH (aD WQ aN))))
theorem WJ:eF prog 199 ahk:=sB amf
def CZ (x0:List gU) (x1:di) (x2:List gI) (x3 x4 x5:Int):Option (taF×qM):=bM (jF x0 x1 x2 x3 x4 x5 [33]) fun y0=>bif y0.2.1 then some ((y0.1.1,(y0.1.2.1,(y0.1.2.2.1,(y0.1.2.2.2.1,(y0.1.2.2.2.2.1,(y0.1.2.2.2.2.2.1,())))))),(true,()))else bM (acC y0.1.1 y0.1.2.1 y0.1.2.2.1 y0.1.2.2.2.1 y0.1.2.2.2.2.1 y0.1.2.2.2.2.2.1) fun y1=>some ((y1.1.1,(y1.1.2.1,(y1.1.2.2.1,(y1.1.2.2.2.1,(y1.1.2.2.2.2.1,(y1.1.2.2.2.2.2.1,())))))),(y1.2.1,()))
def Nu:gX:=⟨185,UC,[],[.bool],fun x y=>CZ x.1 x.2.1 x.2.2.1 x.2.2.2.1 x.2.2.2.2.1 x.2.2.2.2.2.1⟩
noncomputable def aBM:Env:=ed prog tt [] [] [] [] [(127,o9),(199,ahk)]
theorem alM:dK aBM:=eB aN [] aN (hx:=(aD jE (aD WJ aN)))
theorem Ba:eF prog 128 Nu:=sB alM
end
section
open Tryz
open Go.RowKit
def Fb (x2:List gI) (x4 x3:Int):=iH x2 (dG x4) ((dL x2 (0,(0,(0,(0,())))) (dG x4)).1,((dL x2 (0,(0,(0,(0,())))) (dG x4)).2.1,(x3,((dL x2 (0,(0,(0,(0,())))) (dG x4)).2.2.2.1,()))))
def jW (x0:List gU) (x1:di) (x2:List gI) (x3 x4 x5 x6:Int):Option I8:=bif(gV x2 x4)then bif(oD (dG x4) x2)then bif(gV (Fb x2 x4 x3) x4)then bif(oD (dG x4) (Fb x2 x4 x3))then bM (acB (dL (Fb x2 x4 x3) (0,(0,(0,(0,())))) (dG x4)).1) fun y0=>bif y0.1 then some ((x0,(x1,((Fb x2 x4 x3),(x3,(x6,((eG .i64 x5 1),())))))),())else some ((x0,(x1,((Fb x2 x4 x3),(x3,(x6,(x5,())))))),())else none else none else none else none
def xB:gX:=⟨185,UC,[dD],[],fun x y=>jW x.1 x.2.1 x.2.2.1 x.2.2.2.1 x.2.2.2.2.1 x.2.2.2.2.2.1 y.1⟩
noncomputable def aBO:Env:=ed prog tt [(198,ahj)] [] [] []
theorem alP:dK aBO:=eB (aD WI aN) [] aN
theorem nG:eF prog 131 xB:=sB alP
noncomputable def aBm:Code:=(f201.body).getD .skip
noncomputable def aqt:Code:=cA (cA (cA (cB (cB (aBm)))))
def as1:dZ:=⟨[0,3,100002],[],[3],[],[2],[]⟩
def Y1:SQ:=⟨us [.ptr 0 0,.u,.u,.v dD] 13,[[.ptr 0 0]],[.box 0 185 [.v oU,.v .str,.slc 1,.v dD,.v dD,.v dD],.arr 1 pg]⟩
def ZJ:SQ:=⟨us [.u,.u,.u,.v dD] 13,[[.ptr 0 0]],[.box 0 185 [.v oU,.v .str,.slc 1,.v dD,.v dD,.v dD],.arr 1 pg]⟩
def aau:SQ:=⟨us [.u,.u,.v dD] 14,[[.ptr 0 0]],[]⟩
def P5 {γ:Type} (rec kE:Int->(List gU)->di->Int->Int->Int->(List gI)->Option γ) (kR:Int->Option γ) (v0:Int) (v1:List gU) (v2:di) (v3 v4 v5:Int) (v6:List gI):Option γ:=bM (jF v1 v2 v6 v3 v4 v5 [110]) fun y0=>bif y0.2.1 then rec (dA .i64 v0 1) y0.1.1 y0.1.2.1 (dA .i64 y0.1.2.2.2.1 1) y0.1.2.2.2.2.1 y0.1.2.2.2.2.2.1 y0.1.2.2.1 else kE v0 y0.1.1 y0.1.2.1 y0.1.2.2.2.1 y0.1.2.2.2.2.1 y0.1.2.2.2.2.2.1 y0.1.2.2.1
def JU:Nat->Int->(List gU)->di->Int->Int->Int->(List gI)->Option (ZJ.den⊕aau.den)
 |0,_,_,_,_,_,_,_=>none
 |n+1,v0,v1,v2,v3,v4,v5,v6=>P5 (JU n) (fun e0 e1 e2 e3 e4 e5 e6=>some (.inl ((e0,()),((),()),((e1,e2,e3,e4,e5,()),e6,())))) (fun r0=>some (.inr ((r0,()),((),()),()))) v0 v1 v2 v3 v4 v5 v6
def ayh (n:Nat) (v:Y1.den):=JU n v.1.1 v.2.2.1.1 v.2.2.1.2.1 v.2.2.1.2.2.1 v.2.2.1.2.2.2.1 v.2.2.1.2.2.2.2.1 v.2.2.2.1
noncomputable def aja:dI:=fU as1 Y1 ZJ aau (.exit 0) (ayh bU) 6
def lU (x0:List gU) (x1:di) (x2:List gI) (x3 x4 x5:Int):Option (taF×Di):=bM (JU bU 0 x0 x1 x3 x4 x5 x2) fun y0=>dV y0 (fun a1=>some ((a1.2.2.1.1,(a1.2.2.1.2.1,(a1.2.2.2.1,(a1.2.2.1.2.2.1,(a1.2.2.1.2.2.2.1,(a1.2.2.1.2.2.2.2.1,())))))),(a1.1.1,()))) (fun b1=>none)
def EO:gX:=⟨185,UC,[],[dD],fun x y=>lU x.1 x.2.1 x.2.2.1 x.2.2.2.1 x.2.2.2.2.1 x.2.2.2.2.2.1⟩
noncomputable def afp:Env:=ed prog tt [] [(201,2,as1)] [(201,2,aja)] [] [(127,o9)]
def akp {γ:Type} (a:Y1.den->Option γ) (b:ZJ.den->Option γ) (c:aau.den->Option γ) (v:Y1.den):Option γ:=P5 (fun v0 v1 v2 v3 v4 v5 v6=>a ((v0,()),((),()),((v1,v2,v3,v4,v5,()),v6,()))) (fun e0 e1 e2 e3 e4 e5 e6=>b ((e0,()),((),()),((e1,e2,e3,e4,e5,()),e6,()))) (fun r0=>c ((r0,()),((),()),())) v.1.1 v.2.2.1.1 v.2.2.1.2.1 v.2.2.1.2.2.1 v.2.2.1.2.2.2.1 v.2.2.1.2.2.2.2.1 v.2.2.2.1
theorem ay7:dX afp 201 aqt aja:=lK (akp) (h2:=by intros;simp only[akp,P5,dm,dn,bK,cZ,dw])
theorem aDN:dU afp 201 aBm:=qj [aqt] (aD (fM (ay7)) aN)
theorem amh:dK afp:=eB aN [201] (aD ⟨f201,aBm,by kernel_rfl,by kernel_rfl,aDN⟩ aN) (hx:=(aD jE aN))
theorem sO:eF prog 201 EO:=sB amh
def uB (x0:List gU) (x1:di) (x2:List gI) (x3 x4 x5:Int):Option I8:=bM (rH x0 x1 x2 x3 x4 x5 18) fun y0=>bM (jW y0.1.1 y0.1.2.1 y0.1.2.2.1 y0.1.2.2.2.1 y0.1.2.2.2.2.1 y0.1.2.2.2.2.2.1 y0.2.1) fun y1=>some ((y1.1.1,(y1.1.2.1,(y1.1.2.2.1,(y1.1.2.2.2.1,(y1.1.2.2.2.2.1,(y1.1.2.2.2.2.2.1,())))))),())
def IW:gX:=⟨185,UC,[],[],fun x y=>uB x.1 x.2.1 x.2.2.1 x.2.2.2.1 x.2.2.2.2.1 x.2.2.2.2.2.1⟩
noncomputable def aCp:Env:=ed prog tt [] [] [] [] [(126,xA),(131,xB)]
theorem amM:dK aCp:=eB aN [] aN (hx:=(aD nD (aD nG aN)))
theorem wM:eF prog 255 IW:=sB amM
def Ae (x0:List gU) (x1:di) (x2:List gI) (x3 x4 x5 x6:Int):Option I8:=bM (rH x0 x1 x2 x3 x4 x5 x6) fun y0=>bM (jW y0.1.1 y0.1.2.1 y0.1.2.2.1 (dA .i64 y0.1.2.2.2.1 1) y0.1.2.2.2.2.1 y0.1.2.2.2.2.2.1 y0.2.1) fun y1=>some ((y1.1.1,(y1.1.2.1,(y1.1.2.2.1,(y1.1.2.2.2.1,(y1.1.2.2.2.2.1,(y1.1.2.2.2.2.2.1,())))))),())
def Uj:gX:=⟨185,UC,[dD],[],fun x y=>Ae x.1 x.2.1 x.2.2.1 x.2.2.2.1 x.2.2.2.2.1 x.2.2.2.2.2.1 y.1⟩
noncomputable def aBN:Env:=ed prog tt [] [] [] [] [(126,xA),(131,xB)]
theorem alO:dK aBN:=eB aN [] aN (hx:=(aD nD (aD nG aN)))
theorem Gu:eF prog 130 Uj:=sB alO
def mY (x0:List gU) (x1:di) (x2:List gI) (x3 x4 x5:Int) (x6:di):Option I8:=bM (jF x0 x1 x2 x3 x4 x5 x6) fun y0=>bif y0.2.1 then some ((y0.1.1,(y0.1.2.1,(y0.1.2.2.1,((dA .i64 y0.1.2.2.2.1 1),(y0.1.2.2.2.2.1,(y0.1.2.2.2.2.2.1,())))))),())else bM (uB y0.1.1 y0.1.2.1 y0.1.2.2.1 y0.1.2.2.2.1 y0.1.2.2.2.2.1 y0.1.2.2.2.2.2.1) fun y1=>some ((y1.1.1,(y1.1.2.1,(y1.1.2.2.1,(y1.1.2.2.2.1,(y1.1.2.2.2.2.1,(y1.1.2.2.2.2.2.1,())))))),())
def Ul:gX:=⟨185,UC,[.str],[],fun x y=>mY x.1 x.2.1 x.2.2.1 x.2.2.2.1 x.2.2.2.2.1 x.2.2.2.2.2.1 y.1⟩
noncomputable def aCP:Env:=ed prog tt [] [] [] [] [(127,o9),(255,IW)]
theorem anr:dK aCP:=eB aN [] aN (hx:=(aD jE (aD wM aN)))
theorem Gw:eF prog 326 Ul:=sB anr
def xf (x0:List gU) (x1:di) (x2:List gI) (x3 x4 x5:Int):Option I8:=bif(iG x3 (bP x0))then bif(gV x0 x3)then bif(bW (fZ x0 (0,([],(0,(0,())))) x3).1 6)then bM (Ae x0 x1 x2 x3 x4 x5 7) fun y0=>some ((y0.1.1,(y0.1.2.1,(y0.1.2.2.1,(y0.1.2.2.2.1,(y0.1.2.2.2.2.1,(y0.1.2.2.2.2.2.1,())))))),())else bM (uB x0 x1 x2 x3 x4 x5) fun y0=>some ((y0.1.1,(y0.1.2.1,(y0.1.2.2.1,(y0.1.2.2.2.1,(y0.1.2.2.2.2.1,(y0.1.2.2.2.2.2.1,())))))),())else none else bM (uB x0 x1 x2 x3 x4 x5) fun y0=>some ((y0.1.1,(y0.1.2.1,(y0.1.2.2.1,(y0.1.2.2.2.1,(y0.1.2.2.2.2.1,(y0.1.2.2.2.2.2.1,())))))),())
def ahz:gX:=⟨185,UC,[],[],fun x y=>xf x.1 x.2.1 x.2.2.1 x.2.2.2.1 x.2.2.2.2.1 x.2.2.2.2.2.1⟩
noncomputable def aCX:Env:=ed prog tt [] [] [] [] [(130,Uj),(255,IW)]
theorem anI:dK aCX:=eB aN [] aN (hx:=(aD Gu (aD wM aN)))
theorem WZ:eF prog 355 ahz:=sB anI
def acS (x0:List gU) (x1:di) (x2:List gI) (x3 x4 x5:Int):Option I8:=bM (rH x0 x1 x2 x3 x4 x5 8) fun y0=>bM (jF y0.1.1 y0.1.2.1 y0.1.2.2.1 y0.1.2.2.2.1 y0.1.2.2.2.2.1 y0.1.2.2.2.2.2.1 [35]) fun y1=>bif y1.2.1 then bM (xf y1.1.1 y1.1.2.1 y1.1.2.2.1 (dA .i64 (dA .i64 y1.1.2.2.2.1 1) 1) y1.1.2.2.2.2.1 y1.1.2.2.2.2.2.1) fun y2=>bM (jW y2.1.1 y2.1.2.1 y2.1.2.2.1 y2.1.2.2.2.1 y2.1.2.2.2.2.1 y2.1.2.2.2.2.2.1 y0.2.1) fun y3=>some ((y3.1.1,(y3.1.2.1,(y3.1.2.2.1,(y3.1.2.2.2.1,(y3.1.2.2.2.2.1,(y3.1.2.2.2.2.2.1,())))))),())else bM (xf y1.1.1 y1.1.2.1 y1.1.2.2.1 (dA .i64 y1.1.2.2.2.1 1) y1.1.2.2.2.2.1 y1.1.2.2.2.2.2.1) fun y2=>bM (jW y2.1.1 y2.1.2.1 y2.1.2.2.1 y2.1.2.2.2.1 y2.1.2.2.2.2.1 y2.1.2.2.2.2.2.1 y0.2.1) fun y3=>some ((y3.1.1,(y3.1.2.1,(y3.1.2.2.1,(y3.1.2.2.2.1,(y3.1.2.2.2.2.1,(y3.1.2.2.2.2.2.1,())))))),())
def ahy:gX:=⟨185,UC,[],[],fun x y=>acS x.1 x.2.1 x.2.2.1 x.2.2.2.1 x.2.2.2.2.1 x.2.2.2.2.2.1⟩
noncomputable def aCQ:Env:=ed prog tt [] [] [] [] [(126,xA),(127,o9),(131,xB),(355,ahz)]
theorem ant:dK aCQ:=eB aN [] aN (hx:=(aD nD (aD jE (aD nG (aD WZ aN)))))
theorem WY:eF prog 327 ahy:=sB ant
noncomputable def aFE:Code:=(f328.body).getD .skip
noncomputable def aqM:Code:=cA (cA (cB (cA (cB (aFE)))))
def atl:dZ:=⟨[0,3,100002],[],[],[],[2],[]⟩
def Zk:SP:=⟨us [.v .str,.u,.u,.v dD] 17,[]⟩
def Z7:SP:=⟨us [] 21,[]⟩
def aaM:SP:=⟨us [.u,.u,.v dD] 18,[]⟩
def Qj {γ:Type} (rec:di->Int->Option γ) (kE:Option γ) (kR:Int->Option γ) (v0:di) (v1:Int):Option γ:=bif(iG v1 (bP v0))then bif(gV v0 v1)then bif(bW (cO v0 v1) 61)then bif(gm (bP v0) 0 v1)then bM (afV (sub v0 0 v1)) fun y0=>bif y0.1 then kR v1 else rec v0 (dA .i64 v1 1)else none else rec v0 (dA .i64 v1 1)else none else kE
def FQ:Nat->di->Int->Option (Z7.den⊕aaM.den)
 |0,_,_=>none
 |n+1,v0,v1=>Qj (FQ n) (some (.inl ((),()))) (fun r0=>some (.inr ((r0,()),()))) v0 v1
def ayA (n:Nat) (v:Zk.den):=FQ n v.1.1 v.1.2.1
noncomputable def ajt:dI:=gQ atl Zk Z7 aaM (.exit 0) (ayA bU) 6
def aiB (x0:di):Option Di:=bM (FQ bU x0 1) fun y0=>dV y0 (fun a1=>some (0,())) (fun b1=>some (b1.1.1,()))
def av7:Sum:=⟨[.str],UN,fun x=>aiB x.1⟩
noncomputable def afF:Env:=gp prog tt 328 [(16,aeK)] [(2,atl)] [(2,ajt)]
def akI {γ:Type} (a:Zk.den->Option γ) (b:Z7.den->Option γ) (c:aaM.den->Option γ) (v:Zk.den):Option γ:=Qj (fun v0 v1=>a ((v0,v1,()),())) (b ((),())) (fun r0=>c ((r0,()),())) v.1.1 v.1.2.1
theorem azq:dX afF 328 aqM ajt:=Bi (akI) (h2:=by intros;simp only[akI,Qj,dm,dn,bK,cZ,dw])
theorem aD7:dU afF 328 aFE:=qj [aqM] (aD (fM (azq)) aN)
theorem anu:dK afF:=eA f328 (aD Lr aN) (aD7)
theorem apD:dY prog 328 av7:=sA anu
structure fQ where
 q129:(List gU)->di->(List gI)->Int->Int->Int->Option I8
 q200:(List gU)->di->(List gI)->Int->Int->Int->Option I8
 q254:(List gU)->di->(List gI)->Int->Int->Int->Option I8
 q298:(List gU)->di->(List gI)->Int->Int->Int->Option I8
 q351:(List gU)->di->(List gI)->Int->Int->Int->Option I8
 q352:(List gU)->di->(List gI)->Int->Int->Int->Option I8
 q325:(List gU)->di->(List gI)->Int->Int->Int->Option I8
 q353:(List gU)->di->(List gI)->Int->Int->Int->Option I8
 q354:(List gU)->di->(List gI)->Int->Int->Int->Option I8
def abB (q:fQ):gX:=⟨185,UC,[],[],fun x y=>q.q129 x.1 x.2.1 x.2.2.1 x.2.2.2.1 x.2.2.2.2.1 x.2.2.2.2.2.1⟩
def akZ (q:fQ):gX:=⟨185,UC,[],[],fun x y=>q.q200 x.1 x.2.1 x.2.2.1 x.2.2.2.1 x.2.2.2.2.1 x.2.2.2.2.2.1⟩
def ak1 (q:fQ):gX:=⟨185,UC,[],[],fun x y=>q.q254 x.1 x.2.1 x.2.2.1 x.2.2.2.1 x.2.2.2.2.1 x.2.2.2.2.2.1⟩
def ak3 (q:fQ):gX:=⟨185,UC,[],[],fun x y=>q.q298 x.1 x.2.1 x.2.2.1 x.2.2.2.1 x.2.2.2.2.1 x.2.2.2.2.2.1⟩
def abP (q:fQ):gX:=⟨185,UC,[],[],fun x y=>q.q351 x.1 x.2.1 x.2.2.1 x.2.2.2.1 x.2.2.2.2.1 x.2.2.2.2.2.1⟩
def abQ (q:fQ):gX:=⟨185,UC,[],[],fun x y=>q.q352 x.1 x.2.1 x.2.2.1 x.2.2.2.1 x.2.2.2.2.1 x.2.2.2.2.2.1⟩
def ak5 (q:fQ):gX:=⟨185,UC,[],[],fun x y=>q.q325 x.1 x.2.1 x.2.2.1 x.2.2.2.1 x.2.2.2.2.1 x.2.2.2.2.2.1⟩
def ak7 (q:fQ):gX:=⟨185,UC,[],[],fun x y=>q.q353 x.1 x.2.1 x.2.2.1 x.2.2.2.1 x.2.2.2.2.1 x.2.2.2.2.2.1⟩
def ak8 (q:fQ):gX:=⟨185,UC,[],[],fun x y=>q.q354 x.1 x.2.1 x.2.2.1 x.2.2.2.1 x.2.2.2.2.1 x.2.2.2.2.2.1⟩
noncomputable def aBi:Code:=(Tryz.f129.body).getD .skip
noncomputable def aqg:Code:=cA (cA (cA (cB (cB (aBi)))))
def asM:dZ:=⟨[0,2,100002],[],[0,2],[],[],[]⟩
def YP:SQ:=⟨us [.ptr 0 0,.u,.v dD] 27,[[.ptr 0 0]],[.box 0 185 [.v oU,.v .str,.slc 1,.v dD,.v dD,.v dD],.arr 1 pg]⟩
def Pn:SQ:=⟨us [.ptr 0 0,.u,.v dD] 27,[[.ptr 0 0]],[.box 0 185 [.v oU,.v .str,.slc 1,.v dD,.v dD,.v dD],.arr 1 pg]⟩
def Py:SQ:=⟨us [] 30,[[.ptr 0 0]],[]⟩
def Gm (q:fQ) {γ:Type} (rec kE:Int->(List gU)->di->Int->Int->Int->(List gI)->Option γ) (kR:Option γ) (v0:Int) (v1:List gU) (v2:di) (v3 v4 v5:Int) (v6:List gI):Option γ:=bM (jF v1 v2 v6 v3 v4 v5 [59,38]) fun y0=>bif y0.2.1 then bM (lU y0.1.1 y0.1.2.1 y0.1.2.2.1 (dA .i64 y0.1.2.2.2.1 1) y0.1.2.2.2.2.1 y0.1.2.2.2.2.2.1) fun y1=>bM (CZ y1.1.1 y1.1.2.1 y1.1.2.2.1 y1.1.2.2.2.1 y1.1.2.2.2.2.1 y1.1.2.2.2.2.2.1) fun y2=>bif(!y2.2.1)then kE v0 y2.1.1 y2.1.2.1 y2.1.2.2.2.1 y2.1.2.2.2.2.1 y2.1.2.2.2.2.2.1 y2.1.2.2.1 else bM (q.q200 y2.1.1 y2.1.2.1 y2.1.2.2.1 y2.1.2.2.2.1 y2.1.2.2.2.2.1 y2.1.2.2.2.2.2.1) fun y3=>rec v0 y3.1.1 y3.1.2.1 y3.1.2.2.2.1 y3.1.2.2.2.2.1 y3.1.2.2.2.2.2.1 y3.1.2.2.1 else bM (lU y0.1.1 y0.1.2.1 y0.1.2.2.1 y0.1.2.2.2.1 y0.1.2.2.2.2.1 y0.1.2.2.2.2.2.1) fun y1=>bif(bW y1.2.1 0)then kE v0 y1.1.1 y1.1.2.1 y1.1.2.2.2.1 y1.1.2.2.2.2.1 y1.1.2.2.2.2.2.1 y1.1.2.2.1 else bM (CZ y1.1.1 y1.1.2.1 y1.1.2.2.1 y1.1.2.2.2.1 y1.1.2.2.2.2.1 y1.1.2.2.2.2.2.1) fun y2=>bif(!y2.2.1)then kE v0 y2.1.1 y2.1.2.1 y2.1.2.2.2.1 y2.1.2.2.2.2.1 y2.1.2.2.2.2.2.1 y2.1.2.2.1 else bM (q.q200 y2.1.1 y2.1.2.1 y2.1.2.2.1 y2.1.2.2.2.1 y2.1.2.2.2.2.1 y2.1.2.2.2.2.2.1) fun y3=>rec v0 y3.1.1 y3.1.2.1 y3.1.2.2.2.1 y3.1.2.2.2.2.1 y3.1.2.2.2.2.2.1 y3.1.2.2.1
def tu (q:fQ):Nat->Int->(List gU)->di->Int->Int->Int->(List gI)->Option (Pn.den⊕Py.den)
 |0,_,_,_,_,_,_,_=>none
 |n+1,v0,v1,v2,v3,v4,v5,v6=>Gm q (tu q n) (fun e0 e1 e2 e3 e4 e5 e6=>some (.inl ((e0,()),((),()),((e1,e2,e3,e4,e5,()),e6,())))) (some (.inr ((),((),()),()))) v0 v1 v2 v3 v4 v5 v6
def ax5 (q:fQ) (n:Nat) (v:YP.den):=tu q n v.1.1 v.2.2.1.1 v.2.2.1.2.1 v.2.2.1.2.2.1 v.2.2.1.2.2.2.1 v.2.2.1.2.2.2.2.1 v.2.2.2.1
noncomputable def aiY (q:fQ):dI:=fU asM YP Pn Py (.exit 0) (ax5 q bU) 6
def arS (q:fQ) (x0:List gU) (x1:di) (x2:List gI) (x3 x4 x5:Int):Option I8:=bM (rH x0 x1 x2 x3 x4 x5 2) fun y0=>bM (q.q200 y0.1.1 y0.1.2.1 y0.1.2.2.1 y0.1.2.2.2.1 y0.1.2.2.2.2.1 y0.1.2.2.2.2.2.1) fun y1=>bM (tu q bU y0.2.1 y1.1.1 y1.1.2.1 y1.1.2.2.2.1 y1.1.2.2.2.2.1 y1.1.2.2.2.2.2.1 y1.1.2.2.1) fun y2=>dV y2 (fun a3=>bM (jW a3.2.2.1.1 a3.2.2.1.2.1 a3.2.2.2.1 a3.2.2.1.2.2.1 a3.2.2.1.2.2.2.1 a3.2.2.1.2.2.2.2.1 a3.1.1) fun y4=>some ((y4.1.1,(y4.1.2.1,(y4.1.2.2.1,(y4.1.2.2.2.1,(y4.1.2.2.2.2.1,(y4.1.2.2.2.2.2.1,())))))),())) (fun b3=>none)
noncomputable def afg (q:fQ):Env:=ed prog tt [] [(129,2,asM)] [(129,2,aiY q)] [] [(126,xA),(127,o9),(128,Nu),(131,xB),(200,akZ q),(201,EO)]
def akd (q:fQ) {γ:Type} (a:YP.den->Option γ) (b:Pn.den->Option γ) (c:Py.den->Option γ) (v:YP.den):Option γ:=Gm q (fun v0 v1 v2 v3 v4 v5 v6=>a ((v0,()),((),()),((v1,v2,v3,v4,v5,()),v6,()))) (fun e0 e1 e2 e3 e4 e5 e6=>b ((e0,()),((),()),((e1,e2,e3,e4,e5,()),e6,()))) (c ((),((),()),())) v.1.1 v.2.2.1.1 v.2.2.1.2.1 v.2.2.1.2.2.1 v.2.2.1.2.2.2.1 v.2.2.1.2.2.2.2.1 v.2.2.2.1
theorem ayV (q:fQ):dX (afg q) 129 aqg (aiY q):=lK (akd q) (h2:=by intros;simp only[akd,Gm,dm,dn,bK,cZ,dw])
theorem aDC (q:fQ):dU (afg q) 129 aBi:=qj [aqg] (aD (fM (ayV q)) aN)
abbrev UQ (q:fQ):Prop:=eF prog 129 (abB q)/\eF prog 200 (akZ q)/\eF prog 254 (ak1 q)/\eF prog 298 (ak3 q)/\eF prog 351 (abP q)/\eF prog 352 (abQ q)/\eF prog 325 (ak5 q)/\eF prog 353 (ak7 q)/\eF prog 354 (ak8 q)
theorem alN (q:fQ) (H:UQ q):dK (afg q):=eB aN [129] (aD ⟨Tryz.f129,aBi,by kernel_rfl,by kernel_rfl,aDC q⟩ aN) (hx:=(aD nD (aD jE (aD Ba (aD nG (aD H.2.1 (aD sO aN)))))))
noncomputable def aBl:Code:=(f200.body).getD .skip
noncomputable def aqs:Code:=cA (cA (cA (cB (cB (aBl)))))
def asZ:dZ:=⟨[0,2,100002],[],[0,2],[],[],[]⟩
def Y0:SQ:=⟨us [.ptr 0 0,.u,.v dD] 25,[[.ptr 0 0]],[.box 0 185 [.v oU,.v .str,.slc 1,.v dD,.v dD,.v dD],.arr 1 pg]⟩
def ZI:SQ:=⟨us [.ptr 0 0,.u,.v dD] 25,[[.ptr 0 0]],[.box 0 185 [.v oU,.v .str,.slc 1,.v dD,.v dD,.v dD],.arr 1 pg]⟩
def aat:SQ:=⟨us [] 28,[[.ptr 0 0]],[]⟩
def PZ (q:fQ) {γ:Type} (rec kE:Int->(List gU)->di->Int->Int->Int->(List gI)->Option γ) (kR:Option γ) (v0:Int) (v1:List gU) (v2:di) (v3 v4 v5:Int) (v6:List gI):Option γ:=bM (jF v1 v2 v6 v3 v4 v5 [97,111]) fun y0=>bif y0.2.1 then bM (lU y0.1.1 y0.1.2.1 y0.1.2.2.1 (dA .i64 y0.1.2.2.2.1 1) y0.1.2.2.2.2.1 y0.1.2.2.2.2.2.1) fun y1=>bM (CZ y1.1.1 y1.1.2.1 y1.1.2.2.1 y1.1.2.2.2.1 y1.1.2.2.2.2.1 y1.1.2.2.2.2.2.1) fun y2=>bif y2.2.1 then bM (q.q254 y2.1.1 y2.1.2.1 y2.1.2.2.1 y2.1.2.2.2.1 y2.1.2.2.2.2.1 y2.1.2.2.2.2.2.1) fun y3=>rec v0 y3.1.1 y3.1.2.1 y3.1.2.2.2.1 y3.1.2.2.2.2.1 y3.1.2.2.2.2.2.1 y3.1.2.2.1 else bM (uB y2.1.1 y2.1.2.1 y2.1.2.2.1 y2.1.2.2.2.1 y2.1.2.2.2.2.1 y2.1.2.2.2.2.2.1) fun y3=>rec v0 y3.1.1 y3.1.2.1 y3.1.2.2.2.1 y3.1.2.2.2.2.1 y3.1.2.2.2.2.2.1 y3.1.2.2.1 else kE v0 y0.1.1 y0.1.2.1 y0.1.2.2.2.1 y0.1.2.2.2.2.1 y0.1.2.2.2.2.2.1 y0.1.2.2.1
def JS (q:fQ):Nat->Int->(List gU)->di->Int->Int->Int->(List gI)->Option (ZI.den⊕aat.den)
 |0,_,_,_,_,_,_,_=>none
 |n+1,v0,v1,v2,v3,v4,v5,v6=>PZ q (JS q n) (fun e0 e1 e2 e3 e4 e5 e6=>some (.inl ((e0,()),((),()),((e1,e2,e3,e4,e5,()),e6,())))) (some (.inr ((),((),()),()))) v0 v1 v2 v3 v4 v5 v6
def ayg (q:fQ) (n:Nat) (v:Y0.den):=JS q n v.1.1 v.2.2.1.1 v.2.2.1.2.1 v.2.2.1.2.2.1 v.2.2.1.2.2.2.1 v.2.2.1.2.2.2.2.1 v.2.2.2.1
noncomputable def ai9 (q:fQ):dI:=fU asZ Y0 ZI aat (.exit 0) (ayg q bU) 6
def arU (q:fQ) (x0:List gU) (x1:di) (x2:List gI) (x3 x4 x5:Int):Option I8:=bM (rH x0 x1 x2 x3 x4 x5 3) fun y0=>bM (q.q254 y0.1.1 y0.1.2.1 y0.1.2.2.1 y0.1.2.2.2.1 y0.1.2.2.2.2.1 y0.1.2.2.2.2.2.1) fun y1=>bM (JS q bU y0.2.1 y1.1.1 y1.1.2.1 y1.1.2.2.2.1 y1.1.2.2.2.2.1 y1.1.2.2.2.2.2.1 y1.1.2.2.1) fun y2=>dV y2 (fun a3=>bM (jW a3.2.2.1.1 a3.2.2.1.2.1 a3.2.2.2.1 a3.2.2.1.2.2.1 a3.2.2.1.2.2.2.1 a3.2.2.1.2.2.2.2.1 a3.1.1) fun y4=>some ((y4.1.1,(y4.1.2.1,(y4.1.2.2.1,(y4.1.2.2.2.1,(y4.1.2.2.2.2.1,(y4.1.2.2.2.2.2.1,())))))),())) (fun b3=>none)
noncomputable def afo (q:fQ):Env:=ed prog tt [] [(200,2,asZ)] [(200,2,ai9 q)] [] [(126,xA),(127,o9),(128,Nu),(131,xB),(201,EO),(254,ak1 q),(255,IW)]
def ako (q:fQ) {γ:Type} (a:Y0.den->Option γ) (b:ZI.den->Option γ) (c:aat.den->Option γ) (v:Y0.den):Option γ:=PZ q (fun v0 v1 v2 v3 v4 v5 v6=>a ((v0,()),((),()),((v1,v2,v3,v4,v5,()),v6,()))) (fun e0 e1 e2 e3 e4 e5 e6=>b ((e0,()),((),()),((e1,e2,e3,e4,e5,()),e6,()))) (c ((),((),()),())) v.1.1 v.2.2.1.1 v.2.2.1.2.1 v.2.2.1.2.2.1 v.2.2.1.2.2.2.1 v.2.2.1.2.2.2.2.1 v.2.2.2.1
theorem ay6 (q:fQ):dX (afo q) 200 aqs (ai9 q):=lK (ako q) (h2:=by intros;simp only[ako,PZ,dm,dn,bK,cZ,dw])
theorem aDM (q:fQ):dU (afo q) 200 aBl:=qj [aqs] (aD (fM (ay6 q)) aN)
theorem amg (q:fQ) (H:UQ q):dK (afo q):=eB aN [200] (aD ⟨f200,aBl,by kernel_rfl,by kernel_rfl,aDM q⟩ aN) (hx:=(aD nD (aD jE (aD Ba (aD nG (aD sO (aD H.2.2.1 (aD wM aN))))))))
noncomputable def aBp:Code:=(f254.body).getD .skip
noncomputable def aqA:Code:=cA (cA (cA (cB (cB (cB (aBp))))))
def as8:dZ:=⟨[0,2,100004],[],[0,2],[],[],[]⟩
def Y8:SQ:=⟨us [.ptr 0 0,.u,.v dD] 31,[[.ptr 0 0]],[.box 0 185 [.v oU,.v .str,.slc 1,.v dD,.v dD,.v dD],.arr 1 pg]⟩
def ZQ:SQ:=⟨us [.ptr 0 0,.u,.v dD] 31,[[.ptr 0 0]],[.box 0 185 [.v oU,.v .str,.slc 1,.v dD,.v dD,.v dD],.arr 1 pg]⟩
def aaB:SQ:=⟨us [] 34,[[.ptr 0 0]],[]⟩
def P9 (q:fQ) {γ:Type} (rec kE:Int->(List gU)->di->Int->Int->Int->(List gI)->Option γ) (kR:Option γ) (v0:Int) (v1:List gU) (v2:di) (v3 v4 v5:Int) (v6:List gI):Option γ:=bM (jF v1 v2 v6 v3 v4 v5 [124]) fun y0=>bif y0.2.1 then bM (lU y0.1.1 y0.1.2.1 y0.1.2.2.1 (dA .i64 y0.1.2.2.2.1 1) y0.1.2.2.2.2.1 y0.1.2.2.2.2.2.1) fun y1=>bM (q.q298 y1.1.1 y1.1.2.1 y1.1.2.2.1 y1.1.2.2.2.1 y1.1.2.2.2.2.1 y1.1.2.2.2.2.2.1) fun y2=>rec v0 y2.1.1 y2.1.2.1 y2.1.2.2.2.1 y2.1.2.2.2.2.1 y2.1.2.2.2.2.2.1 y2.1.2.2.1 else kE v0 y0.1.1 y0.1.2.1 y0.1.2.2.2.1 y0.1.2.2.2.2.1 y0.1.2.2.2.2.2.1 y0.1.2.2.1
def BM (q:fQ):Nat->Int->(List gU)->di->Int->Int->Int->(List gI)->Option (ZQ.den⊕aaB.den)
 |0,_,_,_,_,_,_,_=>none
 |n+1,v0,v1,v2,v3,v4,v5,v6=>P9 q (BM q n) (fun e0 e1 e2 e3 e4 e5 e6=>some (.inl ((e0,()),((),()),((e1,e2,e3,e4,e5,()),e6,())))) (some (.inr ((),((),()),()))) v0 v1 v2 v3 v4 v5 v6
def ayo (q:fQ) (n:Nat) (v:Y8.den):=BM q n v.1.1 v.2.2.1.1 v.2.2.1.2.1 v.2.2.1.2.2.1 v.2.2.1.2.2.2.1 v.2.2.1.2.2.2.2.1 v.2.2.2.1
noncomputable def ajh (q:fQ):dI:=fU as8 Y8 ZQ aaB (.exit 0) (ayo q bU) 6
def arW (q:fQ) (x0:List gU) (x1:di) (x2:List gI) (x3 x4 x5:Int):Option I8:=bM (rH x0 x1 x2 x3 x4 x5 4) fun y0=>bM (jF y0.1.1 y0.1.2.1 y0.1.2.2.1 y0.1.2.2.2.1 y0.1.2.2.2.2.1 y0.1.2.2.2.2.2.1 [33]) fun y1=>bif y1.2.1 then bM (q.q298 y1.1.1 y1.1.2.1 y1.1.2.2.1 (dA .i64 y1.1.2.2.2.1 1) y1.1.2.2.2.2.1 y1.1.2.2.2.2.2.1) fun y2=>bM (BM q bU y0.2.1 y2.1.1 y2.1.2.1 y2.1.2.2.2.1 y2.1.2.2.2.2.1 y2.1.2.2.2.2.2.1 y2.1.2.2.1) fun y3=>dV y3 (fun a4=>bM (jW a4.2.2.1.1 a4.2.2.1.2.1 a4.2.2.2.1 a4.2.2.1.2.2.1 a4.2.2.1.2.2.2.1 a4.2.2.1.2.2.2.2.1 a4.1.1) fun y5=>some ((y5.1.1,(y5.1.2.1,(y5.1.2.2.1,(y5.1.2.2.2.1,(y5.1.2.2.2.2.1,(y5.1.2.2.2.2.2.1,())))))),())) (fun b4=>none)else bM (q.q298 y1.1.1 y1.1.2.1 y1.1.2.2.1 y1.1.2.2.2.1 y1.1.2.2.2.2.1 y1.1.2.2.2.2.2.1) fun y2=>bM (BM q bU y0.2.1 y2.1.1 y2.1.2.1 y2.1.2.2.2.1 y2.1.2.2.2.2.1 y2.1.2.2.2.2.2.1 y2.1.2.2.1) fun y3=>dV y3 (fun a4=>bM (jW a4.2.2.1.1 a4.2.2.1.2.1 a4.2.2.2.1 a4.2.2.1.2.2.1 a4.2.2.1.2.2.2.1 a4.2.2.1.2.2.2.2.1 a4.1.1) fun y5=>some ((y5.1.1,(y5.1.2.1,(y5.1.2.2.1,(y5.1.2.2.2.1,(y5.1.2.2.2.2.1,(y5.1.2.2.2.2.2.1,())))))),())) (fun b4=>none)
noncomputable def afv (q:fQ):Env:=ed prog tt [] [(254,4,as8)] [(254,4,ajh q)] [] [(126,xA),(127,o9),(131,xB),(201,EO),(298,ak3 q)]
def akw (q:fQ) {γ:Type} (a:Y8.den->Option γ) (b:ZQ.den->Option γ) (c:aaB.den->Option γ) (v:Y8.den):Option γ:=P9 q (fun v0 v1 v2 v3 v4 v5 v6=>a ((v0,()),((),()),((v1,v2,v3,v4,v5,()),v6,()))) (fun e0 e1 e2 e3 e4 e5 e6=>b ((e0,()),((),()),((e1,e2,e3,e4,e5,()),e6,()))) (c ((),((),()),())) v.1.1 v.2.2.1.1 v.2.2.1.2.1 v.2.2.1.2.2.1 v.2.2.1.2.2.2.1 v.2.2.1.2.2.2.2.1 v.2.2.2.1
theorem aze (q:fQ):dX (afv q) 254 aqA (ajh q):=lK (akw q) (h2:=by intros;simp only[akw,P9,dm,dn,bK,cZ,dw])
theorem aDT (q:fQ):dU (afv q) 254 aBp:=qj [aqA] (aD (fM (aze q)) aN)
theorem amL (q:fQ) (H:UQ q):dK (afv q):=eB aN [254] (aD ⟨f254,aBp,by kernel_rfl,by kernel_rfl,aDT q⟩ aN) (hx:=(aD nD (aD jE (aD nG (aD sO (aD H.2.2.2.1 aN))))))
noncomputable def ae9:Code:=(f298.body).getD .skip
noncomputable def ahP:Code:=cA (cA (cA (cB (cB (cB (cB (cB (ae9))))))))
noncomputable def xR:Code:=cB (cB (cB (ae9)))
def aiQ:dZ:=⟨[0,3,4,100016],[],[0,3],[],[],[]⟩
def yg:dZ:=⟨[0,900014],[],[],[],[],[]⟩
def Ph:SQ:=⟨us [.ptr 0 0,.u,.u,.v dD,.v dD] 139,[[.ptr 0 0]],[.box 0 185 [.v oU,.v .str,.slc 1,.v dD,.v dD,.v dD],.arr 1 pg]⟩
def Tn:SQ:=⟨us [.ptr 0 0,.u,.u,.v dD] 140,[[.ptr 0 0]],[.box 0 185 [.v oU,.v .str,.slc 1,.v dD,.v dD,.v dD],.arr 1 pg]⟩
def TB:SQ:=⟨us [] 144,[[.ptr 0 0]],[]⟩
def KZ (q:fQ) {γ:Type} (rec:Int->Int->(List gU)->di->Int->Int->Int->(List gI)->Option γ) (kE:Int->(List gU)->di->Int->Int->Int->(List gI)->Option γ) (kR:Option γ) (v0 v1:Int) (v2:List gU) (v3:di) (v4 v5 v6:Int) (v7:List gI):Option γ:=bM (VN v2 v3 v7 v4 v5 v6) fun y0=>bif y0.2.1 then bM (acS y0.1.1 y0.1.2.1 y0.1.2.2.1 y0.1.2.2.2.1 y0.1.2.2.2.2.1 y0.1.2.2.2.2.2.1) fun y1=>rec v0 v1 y1.1.1 y1.1.2.1 y1.1.2.2.2.1 y1.1.2.2.2.2.1 y1.1.2.2.2.2.2.1 y1.1.2.2.1 else bif(iG y0.1.2.2.2.1 (bP y0.1.1))then bif(gV y0.1.1 y0.1.2.2.2.1)then bif(bW (fZ y0.1.1 (0,([],(0,(0,())))) y0.1.2.2.2.1).1 6)then bif(bW v1 0)then bif(gV y0.1.1 y0.1.2.2.2.1)then bM (aiB (fZ y0.1.1 (0,([],(0,(0,())))) y0.1.2.2.2.1).2.1) fun y1=>bif(iG 0 y1.1)then bM (Ae y0.1.1 y0.1.2.1 y0.1.2.2.1 y0.1.2.2.2.1 y0.1.2.2.2.2.1 y0.1.2.2.2.2.2.1 6) fun y2=>rec v0 v1 y2.1.1 y2.1.2.1 y2.1.2.2.2.1 y2.1.2.2.2.2.1 y2.1.2.2.2.2.2.1 y2.1.2.2.1 else bM (Ae y0.1.1 y0.1.2.1 y0.1.2.2.1 y0.1.2.2.2.1 y0.1.2.2.2.2.1 y0.1.2.2.2.2.2.1 7) fun y2=>rec v0 (dA .i64 v1 1) y2.1.1 y2.1.2.1 y2.1.2.2.2.1 y2.1.2.2.2.2.1 y2.1.2.2.2.2.2.1 y2.1.2.2.1 else none else bM (Ae y0.1.1 y0.1.2.1 y0.1.2.2.1 y0.1.2.2.2.1 y0.1.2.2.2.2.1 y0.1.2.2.2.2.2.1 7) fun y1=>rec v0 (dA .i64 v1 1) y1.1.1 y1.1.2.1 y1.1.2.2.2.1 y1.1.2.2.2.2.1 y1.1.2.2.2.2.2.1 y1.1.2.2.1 else kE v0 y0.1.1 y0.1.2.1 y0.1.2.2.2.1 y0.1.2.2.2.2.1 y0.1.2.2.2.2.2.1 y0.1.2.2.1 else none else kE v0 y0.1.1 y0.1.2.1 y0.1.2.2.2.1 y0.1.2.2.2.2.1 y0.1.2.2.2.2.2.1 y0.1.2.2.1
def Aq (q:fQ):Nat->Int->Int->(List gU)->di->Int->Int->Int->(List gI)->Option (Tn.den⊕TB.den)
 |0,_,_,_,_,_,_,_,_=>none
 |n+1,v0,v1,v2,v3,v4,v5,v6,v7=>KZ q (Aq q n) (fun e0 e1 e2 e3 e4 e5 e6=>some (.inl ((e0,()),((),()),((e1,e2,e3,e4,e5,()),e6,())))) (some (.inr ((),((),()),()))) v0 v1 v2 v3 v4 v5 v6 v7
def atO (q:fQ) (n:Nat) (v:Ph.den):=Aq q n v.1.1 v.1.2.1 v.2.2.1.1 v.2.2.1.2.1 v.2.2.1.2.2.1 v.2.2.1.2.2.2.1 v.2.2.1.2.2.2.2.1 v.2.2.2.1
noncomputable def adV (q:fQ):dI:=fU aiQ Ph Tn TB (.exit 0) (atO q bU) 6
def Ej:SQ:=⟨us [.ptr 0 0] 143,[[.ptr 0 0]],[.box 0 185 [.v oU,.v .str,.slc 1,.v dD,.v dD,.v dD],.arr 1 pg]⟩
def vW:SQ:=⟨us [] 144,[[.ptr 0 0]],[.box 0 185 [.v oU,.v .str,.slc 1,.v dD,.v dD,.v dD],.arr 1 pg]⟩
def wo:SQ:=⟨us [] 144,[[.ptr 0 0]],[]⟩
def wz (q:fQ) {γ:Type} (kE:(List gU)->di->Int->Int->Int->(List gI)->Option γ) (kR:Option γ) (v0:List gU) (v1:di) (v2 v3 v4:Int) (v5:List gI):Option γ:=bM (rH v0 v1 v5 v2 v3 v4 5) fun y0=>bM (Aq q bU y0.2.1 0 y0.1.1 y0.1.2.1 y0.1.2.2.2.1 y0.1.2.2.2.2.1 y0.1.2.2.2.2.2.1 y0.1.2.2.1) fun y1=>dV y1 (fun a2=>bM (jW a2.2.2.1.1 a2.2.2.1.2.1 a2.2.2.2.1 a2.2.2.1.2.2.1 a2.2.2.1.2.2.2.1 a2.2.2.1.2.2.2.2.1 a2.1.1) fun y3=>kE y3.1.1 y3.1.2.1 y3.1.2.2.2.1 y3.1.2.2.2.2.1 y3.1.2.2.2.2.2.1 y3.1.2.2.1) (fun b2=>kR)
def mO (q:fQ) (v0:List gU) (v1:di) (v2 v3 v4:Int) (v5:List gI):Option (vW.den⊕wo.den):=wz q (fun e0 e1 e2 e3 e4 e5=>some (.inl ((),((),()),((e0,e1,e2,e3,e4,()),e5,())))) (some (.inr ((),((),()),()))) v0 v1 v2 v3 v4 v5
noncomputable def Ko (q:fQ):dI:=fU yg Ej vW wo (.exit 999999) (fun v=>mO q v.2.2.1.1 v.2.2.1.2.1 v.2.2.1.2.2.1 v.2.2.1.2.2.2.1 v.2.2.1.2.2.2.2.1 v.2.2.2.1) 12
def E9 (q:fQ) (y2:(taF×qM)):Option I8:=bM (mO q y2.1.1 y2.1.2.1 y2.1.2.2.2.1 y2.1.2.2.2.2.1 y2.1.2.2.2.2.2.1 y2.1.2.2.1) fun y4=>dV y4 (fun a5=>some ((a5.2.2.1.1,(a5.2.2.1.2.1,(a5.2.2.2.1,(a5.2.2.1.2.2.1,(a5.2.2.1.2.2.2.1,(a5.2.2.1.2.2.2.2.1,())))))),())) (fun b5=>none)
def arX (q:fQ) (x0:List gU) (x1:di) (x2:List gI) (x3 x4 x5:Int):Option I8:=bM (acC x0 x1 x2 x3 x4 x5) fun y0=>bif(!y0.2.1)then bM (uB y0.1.1 y0.1.2.1 y0.1.2.2.1 y0.1.2.2.2.1 y0.1.2.2.2.2.1 y0.1.2.2.2.2.2.1) fun y1=>some ((y1.1.1,(y1.1.2.1,(y1.1.2.2.1,(y1.1.2.2.2.1,(y1.1.2.2.2.2.1,(y1.1.2.2.2.2.2.1,())))))),())else bM (RD y0.1.1 y0.1.2.1 y0.1.2.2.1 y0.1.2.2.2.1 y0.1.2.2.2.2.1 y0.1.2.2.2.2.2.1) fun y1=>bif y1.2.1 then bM (q.q325 y1.1.1 y1.1.2.1 y1.1.2.2.1 y1.1.2.2.2.1 y1.1.2.2.2.2.1 y1.1.2.2.2.2.2.1) fun y2=>some ((y2.1.1,(y2.1.2.1,(y2.1.2.2.1,(y2.1.2.2.2.1,(y2.1.2.2.2.2.1,(y2.1.2.2.2.2.2.1,())))))),())else bM (jF y1.1.1 y1.1.2.1 y1.1.2.2.1 y1.1.2.2.2.1 y1.1.2.2.2.2.1 y1.1.2.2.2.2.2.1 [120]) fun y2=>bif y2.2.1 then bif(iG (dA .i64 y2.1.2.2.2.1 1) (bP y2.1.2.1))then bif(gV y2.1.2.1 (dA .i64 y2.1.2.2.2.1 1))then bif(bW (cO y2.1.2.1 (dA .i64 y2.1.2.2.2.1 1)) 40)then bif(iG y2.1.2.2.2.2.2.1 200)then bif(gV y2.1.1 y2.1.2.2.2.1)then bM (afV (fZ y2.1.1 (0,([],(0,(0,())))) y2.1.2.2.2.1).2.1) fun y3=>bif y3.1 then bM (rH y2.1.1 y2.1.2.1 y2.1.2.2.1 y2.1.2.2.2.1 y2.1.2.2.2.2.1 y2.1.2.2.2.2.2.1 16) fun y4=>bM (Ae y4.1.1 y4.1.2.1 y4.1.2.2.1 y4.1.2.2.2.1 y4.1.2.2.2.2.1 y4.1.2.2.2.2.2.1 7) fun y5=>bM (mY y5.1.1 y5.1.2.1 y5.1.2.2.1 (dA .i64 y5.1.2.2.2.1 1) y5.1.2.2.2.2.1 y5.1.2.2.2.2.2.1 [41]) fun y6=>bM (lU y6.1.1 y6.1.2.1 y6.1.2.2.1 y6.1.2.2.2.1 y6.1.2.2.2.2.1 y6.1.2.2.2.2.2.1) fun y7=>bM (RD y7.1.1 y7.1.2.1 y7.1.2.2.1 y7.1.2.2.2.1 y7.1.2.2.2.2.1 y7.1.2.2.2.2.2.1) fun y8=>bif y8.2.1 then bM (q.q325 y8.1.1 y8.1.2.1 y8.1.2.2.1 y8.1.2.2.2.1 y8.1.2.2.2.2.1 y8.1.2.2.2.2.2.1) fun y9=>bM (jW y9.1.1 y9.1.2.1 y9.1.2.2.1 y9.1.2.2.2.1 y9.1.2.2.2.2.1 y9.1.2.2.2.2.2.1 y4.2.1) fun y10=>some ((y10.1.1,(y10.1.2.1,(y10.1.2.2.1,(y10.1.2.2.2.1,(y10.1.2.2.2.2.1,(y10.1.2.2.2.2.2.1,())))))),())else bM (uB y8.1.1 y8.1.2.1 y8.1.2.2.1 y8.1.2.2.2.1 y8.1.2.2.2.2.1 y8.1.2.2.2.2.2.1) fun y9=>bM (jW y9.1.1 y9.1.2.1 y9.1.2.2.1 y9.1.2.2.2.1 y9.1.2.2.2.2.1 y9.1.2.2.2.2.2.1 y4.2.1) fun y10=>some ((y10.1.1,(y10.1.2.1,(y10.1.2.2.1,(y10.1.2.2.2.1,(y10.1.2.2.2.2.1,(y10.1.2.2.2.2.2.1,())))))),())else E9 q y2 else none else E9 q y2 else E9 q y2 else none else E9 q y2 else E9 q y2
noncomputable def Ie (q:fQ):Env:=ed prog tt [(16,aeK),(328,av7)] [(298,16,aiQ),(298,800014,yg)] [(298,16,adV q),(298,800014,Ko q)] [] [(126,xA),(127,o9),(130,Uj),(131,xB),(199,ahk),(201,EO),(252,abL),(253,ahq),(255,IW),(325,ak5 q),(326,Ul),(327,ahy)]
def aeB (q:fQ) {γ:Type} (a:Ph.den->Option γ) (b:Tn.den->Option γ) (c:TB.den->Option γ) (v:Ph.den):Option γ:=KZ q (fun v0 v1 v2 v3 v4 v5 v6 v7=>a ((v0,v1,()),((),()),((v2,v3,v4,v5,v6,()),v7,()))) (fun e0 e1 e2 e3 e4 e5 e6=>b ((e0,()),((),()),((e1,e2,e3,e4,e5,()),e6,()))) (c ((),((),()),())) v.1.1 v.1.2.1 v.2.2.1.1 v.2.2.1.2.1 v.2.2.1.2.2.1 v.2.2.1.2.2.2.1 v.2.2.1.2.2.2.2.1 v.2.2.2.1
theorem aun (q:fQ):dX (Ie q) 298 ahP (adV q):=lK (aeB q) (h2:=by intros;simp only[aeB,KZ,dm,dn,bK,cZ,dw])
theorem Uf (q:fQ) {R:Type} (d:Nat) (K:Ex->St->Option R) (v0:List gU) (v1:di) (v2 v3 v4:Int) (v5:List gI):
  iter (some yg) (Dz (AO (Ie q) (d+12) 298 xR)) 1 (mZ Ej ((),((),()),((v0,v1,v2,v3,v4,()),v5,()))) K=
   wz q (fun e0 e1 e2 e3 e4 e5=>K (.exit 999999) (mZ vW ((),((),()),((e0,e1,e2,e3,e4,()),e5,())))) (K .ret (mZ wo ((),((),()),()))) v0 v1 v2 v3 v4 v5:=by kernel_rfl
theorem Yj (q:fQ) {R:Type} (d:Nat) (K:Ex->St->Option R) (v0:List gU) (v1:di) (v2 v3 v4:Int) (v5:List gI):
  iter (some yg) (Dz (AO (Ie q) (d+12) 298 xR)) 1 (mZ Ej ((),((),()),((v0,v1,v2,v3,v4,()),v5,()))) K=bM (mO q v0 v1 v2 v3 v4 v5) fun o=>dV o (fun a=>K (.exit 999999) (mZ vW a)) fun b=>K .ret (mZ wo b):=by
  rw[Uf];simp only[mO,wz,dm,dn,bK,cZ,dw]
  try simp only[dV]
theorem YI (q:fQ):zM (Ie q) 298 xR (Ko q):=alA (by kernel_rfl) fun R d K v o h=>⟨1,(Yj q d K (v.2.2.1.1) (v.2.2.1.2.1) (v.2.2.1.2.2.1) (v.2.2.1.2.2.2.1) (v.2.2.1.2.2.2.2.1) (v.2.2.2.1)).trans (congrArg (fun o=>bM o _) h)⟩
theorem aDv:jH ae9=[ahP]:=by kernel_rfl
theorem aBz (q:fQ):Mc (Ie q) 298 ae9=[xR]:=by kernel_rfl
theorem aD3 (q:fQ):dU (Ie q) 298 ae9:=D6 ae9 (fun x _ hx=>absurd (show false=true from hx) (by decide)) (by rw[aDv];exact(aD (fM (aun q)) aN)) (JH (by rw[aBz];exact(aD (fC (by kernel_rfl) (YI q)) aN)))
theorem anc (q:fQ) (H:UQ q):dK (Ie q):=eB (aD Lr (aD apD aN)) [298] (aD ⟨f298,ae9,by kernel_rfl,by kernel_rfl,aD3 q⟩ aN) (hx:=(aD nD (aD jE (aD Gu (aD nG (aD WJ (aD sO (aD NH (aD WQ (aD wM (aD H.2.2.2.2.2.2.1 (aD Gw (aD WY aN)))))))))))))
def ar0 (q:fQ) (x0:List gU) (x1:di) (x2:List gI) (x3 x4 x5:Int):Option I8:=bM (lU x0 x1 x2 x3 x4 x5) fun y0=>bM (CZ y0.1.1 y0.1.2.1 y0.1.2.2.1 y0.1.2.2.2.1 y0.1.2.2.2.2.1 y0.1.2.2.2.2.2.1) fun y1=>bif y1.2.1 then bM (q.q129 y1.1.1 y1.1.2.1 y1.1.2.2.1 y1.1.2.2.2.1 y1.1.2.2.2.2.1 y1.1.2.2.2.2.2.1) fun y2=>some ((y2.1.1,(y2.1.2.1,(y2.1.2.2.1,(y2.1.2.2.2.1,(y2.1.2.2.2.2.1,(y2.1.2.2.2.2.2.1,())))))),())else bM (uB y1.1.1 y1.1.2.1 y1.1.2.2.1 y1.1.2.2.2.1 y1.1.2.2.2.2.1 y1.1.2.2.2.2.2.1) fun y2=>some ((y2.1.1,(y2.1.2.1,(y2.1.2.2.1,(y2.1.2.2.2.1,(y2.1.2.2.2.2.1,(y2.1.2.2.2.2.2.1,())))))),())
noncomputable def aCV (q:fQ):Env:=ed prog tt [] [] [] [] [(128,Nu),(129,abB q),(201,EO),(255,IW)]
theorem anE (q:fQ) (H:UQ q):dK (aCV q):=eB aN [] aN (hx:=(aD Ba (aD H.1 (aD sO (aD wM aN)))))
def ar1 (q:fQ) (x0:List gU) (x1:di) (x2:List gI) (x3 x4 x5:Int):Option I8:=bM (mY x0 x1 x2 x3 x4 x5 [100]) fun y0=>bM (q.q351 y0.1.1 y0.1.2.1 y0.1.2.2.1 y0.1.2.2.2.1 y0.1.2.2.2.2.1 y0.1.2.2.2.2.2.1) fun y1=>bM (mY y1.1.1 y1.1.2.1 y1.1.2.2.1 y1.1.2.2.2.1 y1.1.2.2.2.2.1 y1.1.2.2.2.2.2.1 [103]) fun y2=>some ((y2.1.1,(y2.1.2.1,(y2.1.2.2.1,(y2.1.2.2.2.1,(y2.1.2.2.2.2.1,(y2.1.2.2.2.2.2.1,())))))),())
noncomputable def aCW (q:fQ):Env:=ed prog tt [] [] [] [] [(326,Ul),(351,abP q)]
theorem anF (q:fQ) (H:UQ q):dK (aCW q):=eB aN [] aN (hx:=(aD Gw (aD H.2.2.2.2.1 aN)))
noncomputable def ap9:Code:=(f325.body).getD .skip
noncomputable def aqL:Code:=cA (cA (cB (cA (cB (cB (ap9))))))
noncomputable def ahQ:Code:=cA (cA (cA (cB (cB (cB (cA (cB (cB (cB (cB (cB (cA (cB (cA (cB (cB (cB (cB (cB (ap9))))))))))))))))))))
noncomputable def ahR:Code:=cA (cA (cA (cB (cB (cB (cB (cB (cB (ap9)))))))))
def atj:dZ:=⟨[0,2,3,4,100003],[],[0,3],[],[],[]⟩
def aiR:dZ:=⟨[0,5,100020],[],[0,5],[],[],[]⟩
def aiS:dZ:=⟨[0,5,100036],[],[0,5],[],[],[]⟩
def Zj:SQ:=⟨us [.ptr 0 0,.u,.v (.int .u8),.v dD,.v dD] 103,[[.ptr 0 0]],[.box 0 185 [.v oU,.v .str,.slc 1,.v dD,.v dD,.v dD],.arr 1 pg]⟩
def Z5:SQ:=⟨us [.ptr 0 0,.u,.u,.v dD] 104,[[.ptr 0 0]],[.box 0 185 [.v oU,.v .str,.slc 1,.v dD,.v dD,.v dD],.arr 1 pg]⟩
def aaL:SQ:=⟨us [] 108,[[.ptr 0 0]],[]⟩
def abk (q:fQ) {γ:Type} (rec:Int->Int->Int->(List gU)->di->Int->Int->Int->(List gI)->Option γ) (kE:Int->(List gU)->di->Int->Int->Int->(List gI)->Option γ) (kR:Option γ) (v0 v1 v2:Int) (v3:List gU) (v4:di) (v5 v6 v7:Int) (v8:List gI):Option γ:=bif(iG v2 6)then bif(gV [123,40,105,119,114,99] v2)then bif(bW (cO [123,40,105,119,114,99] v2) v0)then rec v0 (dA .i64 9 v2) (dA .i64 v2 1) v3 v4 v5 v6 v7 v8 else rec v0 v1 (dA .i64 v2 1) v3 v4 v5 v6 v7 v8 else none else kE v1 v3 v4 v5 v6 v7 v8
def vI (q:fQ):Nat->Int->Int->Int->(List gU)->di->Int->Int->Int->(List gI)->Option (Z5.den⊕aaL.den)
 |0,_,_,_,_,_,_,_,_,_=>none
 |n+1,v0,v1,v2,v3,v4,v5,v6,v7,v8=>abk q (vI q n) (fun e0 e1 e2 e3 e4 e5 e6=>some (.inl ((e0,()),((),()),((e1,e2,e3,e4,e5,()),e6,())))) (some (.inr ((),((),()),()))) v0 v1 v2 v3 v4 v5 v6 v7 v8
def ayz (q:fQ) (n:Nat) (v:Zj.den):=vI q n v.1.1 v.1.2.1 v.1.2.2.1 v.2.2.1.1 v.2.2.1.2.1 v.2.2.1.2.2.1 v.2.2.1.2.2.2.1 v.2.2.1.2.2.2.2.1 v.2.2.2.1
noncomputable def ajs (q:fQ):dI:=fU atj Zj Z5 aaL (.exit 0) (ayz q bU) 6
def Pj:SQ:=⟨us [.ptr 0 0,.u,.u,.u,.u,.v dD] 102,[[.ptr 0 0]],[.box 0 185 [.v oU,.v .str,.slc 1,.v dD,.v dD,.v dD],.arr 1 pg]⟩
def Ky:SQ:=⟨us [.ptr 0 0,.u,.u,.u,.u,.v dD] 102,[[.ptr 0 0]],[.box 0 185 [.v oU,.v .str,.slc 1,.v dD,.v dD,.v dD],.arr 1 pg]⟩
def KC:SQ:=⟨us [] 108,[[.ptr 0 0]],[]⟩
def Lc (q:fQ) {γ:Type} (rec kE:Int->(List gU)->di->Int->Int->Int->(List gI)->Option γ) (kR:Option γ) (v0:Int) (v1:List gU) (v2:di) (v3 v4 v5:Int) (v6:List gI):Option γ:=bM (VN v1 v2 v6 v3 v4 v5) fun y0=>bif y0.2.1 then bM (acS y0.1.1 y0.1.2.1 y0.1.2.2.1 y0.1.2.2.2.1 y0.1.2.2.2.2.1 y0.1.2.2.2.2.2.1) fun y1=>rec v0 y1.1.1 y1.1.2.1 y1.1.2.2.2.1 y1.1.2.2.2.2.1 y1.1.2.2.2.2.2.1 y1.1.2.2.1 else kE v0 y0.1.1 y0.1.2.1 y0.1.2.2.2.1 y0.1.2.2.2.2.1 y0.1.2.2.2.2.2.1 y0.1.2.2.1
def jm (q:fQ):Nat->Int->(List gU)->di->Int->Int->Int->(List gI)->Option (Ky.den⊕KC.den)
 |0,_,_,_,_,_,_,_=>none
 |n+1,v0,v1,v2,v3,v4,v5,v6=>Lc q (jm q n) (fun e0 e1 e2 e3 e4 e5 e6=>some (.inl ((e0,()),((),()),((e1,e2,e3,e4,e5,()),e6,())))) (some (.inr ((),((),()),()))) v0 v1 v2 v3 v4 v5 v6
def atQ (q:fQ) (n:Nat) (v:Pj.den):=jm q n v.1.1 v.2.2.1.1 v.2.2.1.2.1 v.2.2.1.2.2.1 v.2.2.1.2.2.2.1 v.2.2.1.2.2.2.2.1 v.2.2.2.1
noncomputable def adX (q:fQ):dI:=fU aiS Pj Ky KC (.exit 5) (atQ q bU) 12
def Pi:SQ:=⟨us [.ptr 0 0,.u,.u,.u,.u,.v dD] 102,[[.ptr 0 0]],[.box 0 185 [.v oU,.v .str,.slc 1,.v dD,.v dD,.v dD],.arr 1 pg]⟩
def Tq:SQ:=⟨us [.ptr 0 0,.u,.u,.u,.u,.v dD] 102,[[.ptr 0 0]],[.box 0 185 [.v oU,.v .str,.slc 1,.v dD,.v dD,.v dD],.arr 1 pg]⟩
def TC:SQ:=⟨us [] 108,[[.ptr 0 0]],[]⟩
def La (q:fQ) {γ:Type} (rec kE:Int->(List gU)->di->Int->Int->Int->(List gI)->Option γ) (kR:Option γ) (v0:Int) (v1:List gU) (v2:di) (v3 v4 v5:Int) (v6:List gI):Option γ:=bM (jF v1 v2 v6 v3 v4 v5 [101]) fun y0=>bif y0.2.1 then bM (q.q351 y0.1.1 y0.1.2.1 y0.1.2.2.1 (dA .i64 y0.1.2.2.2.1 1) y0.1.2.2.2.2.1 y0.1.2.2.2.2.2.1) fun y1=>bM (mY y1.1.1 y1.1.2.1 y1.1.2.2.1 y1.1.2.2.2.1 y1.1.2.2.2.2.1 y1.1.2.2.2.2.2.1 [116]) fun y2=>bM (q.q351 y2.1.1 y2.1.2.1 y2.1.2.2.1 y2.1.2.2.2.1 y2.1.2.2.2.2.1 y2.1.2.2.2.2.2.1) fun y3=>rec v0 y3.1.1 y3.1.2.1 y3.1.2.2.2.1 y3.1.2.2.2.2.1 y3.1.2.2.2.2.2.1 y3.1.2.2.1 else kE v0 y0.1.1 y0.1.2.1 y0.1.2.2.2.1 y0.1.2.2.2.2.1 y0.1.2.2.2.2.2.1 y0.1.2.2.1
def Ar (q:fQ):Nat->Int->(List gU)->di->Int->Int->Int->(List gI)->Option (Tq.den⊕TC.den)
 |0,_,_,_,_,_,_,_=>none
 |n+1,v0,v1,v2,v3,v4,v5,v6=>La q (Ar q n) (fun e0 e1 e2 e3 e4 e5 e6=>some (.inl ((e0,()),((),()),((e1,e2,e3,e4,e5,()),e6,())))) (some (.inr ((),((),()),()))) v0 v1 v2 v3 v4 v5 v6
def atP (q:fQ) (n:Nat) (v:Pi.den):=Ar q n v.1.1 v.2.2.1.1 v.2.2.1.2.1 v.2.2.1.2.2.1 v.2.2.1.2.2.2.1 v.2.2.1.2.2.2.2.1 v.2.2.2.1
noncomputable def adW (q:fQ):dI:=fU aiR Pi Tq TC (.exit 3) (atP q bU) 18
def nO (y5:Ky.den⊕KC.den):Option I8:=dV y5 (fun a6=>bM (jW a6.2.2.1.1 a6.2.2.1.2.1 a6.2.2.2.1 a6.2.2.1.2.2.1 a6.2.2.1.2.2.2.1 a6.2.2.1.2.2.2.2.1 a6.1.1) fun y7=>some ((y7.1.1,(y7.1.2.1,(y7.1.2.2.1,(y7.1.2.2.2.1,(y7.1.2.2.2.2.1,(y7.1.2.2.2.2.2.1,())))))),())) (fun b6=>none)
def zZ (q:fQ) (x0:List gU) (x1:di) (x2:List gI) (x3 x4 x5:Int):Option I8:=bif(gV x1 x3)then bM (vI q bU (cO x1 x3) 9 0 x0 x1 x3 x4 x5 x2) fun y0=>dV y0 (fun a1=>bM (rH a1.2.2.1.1 a1.2.2.1.2.1 a1.2.2.2.1 a1.2.2.1.2.2.1 a1.2.2.1.2.2.2.1 a1.2.2.1.2.2.2.2.1 a1.1.1) fun y2=>bif(bW a1.1.1 9)then bM (q.q351 y2.1.1 y2.1.2.1 y2.1.2.2.1 (dA .i64 y2.1.2.2.2.1 1) y2.1.2.2.2.2.1 y2.1.2.2.2.2.2.1) fun y3=>bM (mY y3.1.1 y3.1.2.1 y3.1.2.2.1 y3.1.2.2.2.1 y3.1.2.2.2.2.1 y3.1.2.2.2.2.2.1 [125]) fun y4=>bM (jm q bU y2.2.1 y4.1.1 y4.1.2.1 y4.1.2.2.2.1 y4.1.2.2.2.2.1 y4.1.2.2.2.2.2.1 y4.1.2.2.1) fun y5=>nO y5 else bif(bW a1.1.1 10)then bM (q.q351 y2.1.1 y2.1.2.1 y2.1.2.2.1 (dA .i64 y2.1.2.2.2.1 1) y2.1.2.2.2.2.1 y2.1.2.2.2.2.2.1) fun y3=>bM (mY y3.1.1 y3.1.2.1 y3.1.2.2.1 y3.1.2.2.2.1 y3.1.2.2.2.2.1 y3.1.2.2.2.2.2.1 [41]) fun y4=>bM (jm q bU y2.2.1 y4.1.1 y4.1.2.1 y4.1.2.2.2.1 y4.1.2.2.2.2.1 y4.1.2.2.2.2.2.1 y4.1.2.2.1) fun y5=>nO y5 else bif(bW a1.1.1 11)then bM (q.q351 y2.1.1 y2.1.2.1 y2.1.2.2.1 (dA .i64 y2.1.2.2.2.1 1) y2.1.2.2.2.2.1 y2.1.2.2.2.2.2.1) fun y3=>bM (mY y3.1.1 y3.1.2.1 y3.1.2.2.1 y3.1.2.2.2.1 y3.1.2.2.2.2.1 y3.1.2.2.2.2.2.1 [116]) fun y4=>bM (q.q351 y4.1.1 y4.1.2.1 y4.1.2.2.1 y4.1.2.2.2.1 y4.1.2.2.2.2.1 y4.1.2.2.2.2.2.1) fun y5=>bM (Ar q bU y2.2.1 y5.1.1 y5.1.2.1 y5.1.2.2.2.1 y5.1.2.2.2.2.1 y5.1.2.2.2.2.2.1 y5.1.2.2.1) fun y6=>dV y6 (fun a7=>bM (jF a7.2.2.1.1 a7.2.2.1.2.1 a7.2.2.2.1 a7.2.2.1.2.2.1 a7.2.2.1.2.2.2.1 a7.2.2.1.2.2.2.2.1 [108]) fun y8=>bif y8.2.1 then bM (q.q351 y8.1.1 y8.1.2.1 y8.1.2.2.1 (dA .i64 y8.1.2.2.2.1 1) y8.1.2.2.2.2.1 y8.1.2.2.2.2.2.1) fun y9=>bM (mY y9.1.1 y9.1.2.1 y9.1.2.2.1 y9.1.2.2.2.1 y9.1.2.2.2.2.1 y9.1.2.2.2.2.2.1 [102]) fun y10=>bM (jm q bU a7.1.1 y10.1.1 y10.1.2.1 y10.1.2.2.2.1 y10.1.2.2.2.2.1 y10.1.2.2.2.2.2.1 y10.1.2.2.1) fun y11=>nO y11 else bM (mY y8.1.1 y8.1.2.1 y8.1.2.2.1 y8.1.2.2.2.1 y8.1.2.2.2.2.1 y8.1.2.2.2.2.2.1 [102]) fun y9=>bM (jm q bU a7.1.1 y9.1.1 y9.1.2.1 y9.1.2.2.2.1 y9.1.2.2.2.2.1 y9.1.2.2.2.2.2.1 y9.1.2.2.1) fun y10=>nO y10) (fun b7=>none)else bif(bW a1.1.1 12)then bM (q.q351 y2.1.1 y2.1.2.1 y2.1.2.2.1 (dA .i64 y2.1.2.2.2.1 1) y2.1.2.2.2.2.1 y2.1.2.2.2.2.2.1) fun y3=>bM (q.q352 y3.1.1 y3.1.2.1 y3.1.2.2.1 y3.1.2.2.2.1 y3.1.2.2.2.2.1 y3.1.2.2.2.2.2.1) fun y4=>bM (jm q bU y2.2.1 y4.1.1 y4.1.2.1 y4.1.2.2.2.1 y4.1.2.2.2.2.1 y4.1.2.2.2.2.2.1 y4.1.2.2.1) fun y5=>nO y5 else bif(bW a1.1.1 13)then bM (q.q353 y2.1.1 y2.1.2.1 y2.1.2.2.1 (dA .i64 y2.1.2.2.2.1 1) y2.1.2.2.2.2.1 y2.1.2.2.2.2.2.1) fun y3=>bM (jm q bU y2.2.1 y3.1.1 y3.1.2.1 y3.1.2.2.2.1 y3.1.2.2.2.2.1 y3.1.2.2.2.2.2.1 y3.1.2.2.1) fun y4=>nO y4 else bif(bW a1.1.1 14)then bM (q.q354 y2.1.1 y2.1.2.1 y2.1.2.2.1 (dA .i64 y2.1.2.2.2.1 1) y2.1.2.2.2.2.1 y2.1.2.2.2.2.2.1) fun y3=>bM (jm q bU y2.2.1 y3.1.1 y3.1.2.1 y3.1.2.2.2.1 y3.1.2.2.2.2.1 y3.1.2.2.2.2.2.1 y3.1.2.2.1) fun y4=>nO y4 else bM (jm q bU y2.2.1 y2.1.1 y2.1.2.1 (dA .i64 y2.1.2.2.2.1 1) y2.1.2.2.2.2.1 y2.1.2.2.2.2.2.1 y2.1.2.2.1) fun y3=>nO y3) (fun b1=>none)else none
noncomputable def Rh (q:fQ):Env:=ed prog tt [] [(325,3,atj),(325,20,aiR),(325,36,aiS)] [(325,3,ajs q),(325,36,adX q),(325,20,adW q)] [] [(126,xA),(127,o9),(131,xB),(252,abL),(326,Ul),(327,ahy),(351,abP q),(352,abQ q),(353,ak7 q),(354,ak8 q)]
def akH (q:fQ) {γ:Type} (a:Zj.den->Option γ) (b:Z5.den->Option γ) (c:aaL.den->Option γ) (v:Zj.den):Option γ:=abk q (fun v0 v1 v2 v3 v4 v5 v6 v7 v8=>a ((v0,v1,v2,()),((),()),((v3,v4,v5,v6,v7,()),v8,()))) (fun e0 e1 e2 e3 e4 e5 e6=>b ((e0,()),((),()),((e1,e2,e3,e4,e5,()),e6,()))) (c ((),((),()),())) v.1.1 v.1.2.1 v.1.2.2.1 v.2.2.1.1 v.2.2.1.2.1 v.2.2.1.2.2.1 v.2.2.1.2.2.2.1 v.2.2.1.2.2.2.2.1 v.2.2.2.1
theorem azp (q:fQ):dX (Rh q) 325 aqL (ajs q):=lK (akH q) (h2:=by intros;simp only[akH,abk,dm,dn,bK,cZ,dw])
def aeD (q:fQ) {γ:Type} (a:Pj.den->Option γ) (b:Ky.den->Option γ) (c:KC.den->Option γ) (v:Pj.den):Option γ:=Lc q (fun v0 v1 v2 v3 v4 v5 v6=>a ((v0,()),((),()),((v1,v2,v3,v4,v5,()),v6,()))) (fun e0 e1 e2 e3 e4 e5 e6=>b ((e0,()),((),()),((e1,e2,e3,e4,e5,()),e6,()))) (c ((),((),()),())) v.1.1 v.2.2.1.1 v.2.2.1.2.1 v.2.2.1.2.2.1 v.2.2.1.2.2.2.1 v.2.2.1.2.2.2.2.1 v.2.2.2.1
theorem aup (q:fQ):dX (Rh q) 325 ahR (adX q):=lK (aeD q) (h2:=by intros;simp only[aeD,Lc,dm,dn,bK,cZ,dw])
def aeC (q:fQ) {γ:Type} (a:Pi.den->Option γ) (b:Tq.den->Option γ) (c:TC.den->Option γ) (v:Pi.den):Option γ:=La q (fun v0 v1 v2 v3 v4 v5 v6=>a ((v0,()),((),()),((v1,v2,v3,v4,v5,()),v6,()))) (fun e0 e1 e2 e3 e4 e5 e6=>b ((e0,()),((),()),((e1,e2,e3,e4,e5,()),e6,()))) (c ((),((),()),())) v.1.1 v.2.2.1.1 v.2.2.1.2.1 v.2.2.1.2.2.1 v.2.2.1.2.2.2.1 v.2.2.1.2.2.2.2.1 v.2.2.2.1
theorem auo (q:fQ):dX (Rh q) 325 ahQ (adW q):=lK (aeC q) (h2:=by intros;simp only[aeC,La,dm,dn,bK,cZ,dw])
theorem aD6 (q:fQ):dU (Rh q) 325 ap9:=qj [aqL,ahQ,ahR] (aD (fM (azp q)) (aD (fM (auo q)) (aD (fM (aup q)) aN)))
theorem anq (q:fQ) (H:UQ q):dK (Rh q):=eB aN [325] (aD ⟨f325,ap9,by kernel_rfl,by kernel_rfl,aD6 q⟩ aN) (hx:=(aD nD (aD jE (aD nG (aD NH (aD Gw (aD WY (aD H.2.2.2.2.1 (aD H.2.2.2.2.2.1 (aD H.2.2.2.2.2.2.2.1 (aD H.2.2.2.2.2.2.2.2 aN)))))))))))
noncomputable def aBt:Code:=(f353.body).getD .skip
noncomputable def aqQ:Code:=cA (cA (cA (cB (cA (cB (cB (cB (cB (cA (cB (aBt)))))))))))
def atp:dZ:=⟨[0,100009],[],[0],[],[],[]⟩
def Zo:SQ:=⟨us [.ptr 0 0] 112,[[.ptr 0 0]],[.box 0 185 [.v oU,.v .str,.slc 1,.v dD,.v dD,.v dD],.arr 1 pg]⟩
def aac:SQ:=⟨us [.ptr 0 0] 112,[[.ptr 0 0]],[.box 0 185 [.v oU,.v .str,.slc 1,.v dD,.v dD,.v dD],.arr 1 pg]⟩
def aaQ:SQ:=⟨us [] 113,[[.ptr 0 0]],[]⟩
def Qm (q:fQ) {γ:Type} (rec kE:(List gU)->di->Int->Int->Int->(List gI)->Option γ) (kR:Option γ) (v0:List gU) (v1:di) (v2 v3 v4:Int) (v5:List gI):Option γ:=bif(iG v2 (bP v0))then bif(gV v0 v2)then bif(bW (fZ v0 (0,([],(0,(0,())))) v2).1 6)then bM (Ae v0 v1 v5 v2 v3 v4 7) fun y0=>rec y0.1.1 y0.1.2.1 y0.1.2.2.2.1 y0.1.2.2.2.2.1 y0.1.2.2.2.2.2.1 y0.1.2.2.1 else kE v0 v1 v2 v3 v4 v5 else none else kE v0 v1 v2 v3 v4 v5
def FX (q:fQ):Nat->(List gU)->di->Int->Int->Int->(List gI)->Option (aac.den⊕aaQ.den)
 |0,_,_,_,_,_,_=>none
 |n+1,v0,v1,v2,v3,v4,v5=>Qm q (FX q n) (fun e0 e1 e2 e3 e4 e5=>some (.inl ((),((),()),((e0,e1,e2,e3,e4,()),e5,())))) (some (.inr ((),((),()),()))) v0 v1 v2 v3 v4 v5
def ayE (q:fQ) (n:Nat) (v:Zo.den):=FX q n v.2.2.1.1 v.2.2.1.2.1 v.2.2.1.2.2.1 v.2.2.1.2.2.2.1 v.2.2.1.2.2.2.2.1 v.2.2.2.1
noncomputable def ajx (q:fQ):dI:=fU atp Zo aac aaQ (.exit 0) (ayE q bU) 6
def Js (y1:I8) (q:fQ):Option I8:=bM (jF y1.1.1 y1.1.2.1 y1.1.2.2.1 y1.1.2.2.2.1 y1.1.2.2.2.2.1 y1.1.2.2.2.2.2.1 [59]) fun y2=>bif y2.2.1 then bM (lU y2.1.1 y2.1.2.1 y2.1.2.2.1 (dA .i64 y2.1.2.2.2.1 1) y2.1.2.2.2.2.1 y2.1.2.2.2.2.2.1) fun y3=>bM (q.q352 y3.1.1 y3.1.2.1 y3.1.2.2.1 y3.1.2.2.2.1 y3.1.2.2.2.2.1 y3.1.2.2.2.2.2.1) fun y4=>some ((y4.1.1,(y4.1.2.1,(y4.1.2.2.1,(y4.1.2.2.2.1,(y4.1.2.2.2.2.1,(y4.1.2.2.2.2.2.1,())))))),())else bM (lU y2.1.1 y2.1.2.1 y2.1.2.2.1 y2.1.2.2.2.1 y2.1.2.2.2.2.1 y2.1.2.2.2.2.2.1) fun y3=>bM (jF y3.1.1 y3.1.2.1 y3.1.2.2.1 y3.1.2.2.2.1 y3.1.2.2.2.2.1 y3.1.2.2.2.2.2.1 [107]) fun y4=>bif y4.2.1 then bM (FX q bU y4.1.1 y4.1.2.1 (dA .i64 y4.1.2.2.2.1 1) y4.1.2.2.2.2.1 y4.1.2.2.2.2.2.1 y4.1.2.2.1) fun y5=>dV y5 (fun a6=>bM (jF a6.2.2.1.1 a6.2.2.1.2.1 a6.2.2.2.1 a6.2.2.1.2.2.1 a6.2.2.1.2.2.2.1 a6.2.2.1.2.2.2.2.1 [59]) fun y7=>bif y7.2.1 then bM (lU y7.1.1 y7.1.2.1 y7.1.2.2.1 (dA .i64 y7.1.2.2.2.1 1) y7.1.2.2.2.2.1 y7.1.2.2.2.2.2.1) fun y8=>bM (q.q352 y8.1.1 y8.1.2.1 y8.1.2.2.1 y8.1.2.2.2.1 y8.1.2.2.2.2.1 y8.1.2.2.2.2.2.1) fun y9=>some ((y9.1.1,(y9.1.2.1,(y9.1.2.2.1,(y9.1.2.2.2.1,(y9.1.2.2.2.2.1,(y9.1.2.2.2.2.2.1,())))))),())else bM (lU y7.1.1 y7.1.2.1 y7.1.2.2.1 y7.1.2.2.2.1 y7.1.2.2.2.2.1 y7.1.2.2.2.2.2.1) fun y8=>bif(bW y8.2.1 0)then bM (uB y8.1.1 y8.1.2.1 y8.1.2.2.1 y8.1.2.2.2.1 y8.1.2.2.2.2.1 y8.1.2.2.2.2.2.1) fun y9=>bM (q.q352 y9.1.1 y9.1.2.1 y9.1.2.2.1 y9.1.2.2.2.1 y9.1.2.2.2.2.1 y9.1.2.2.2.2.2.1) fun y10=>some ((y10.1.1,(y10.1.2.1,(y10.1.2.2.1,(y10.1.2.2.2.1,(y10.1.2.2.2.2.1,(y10.1.2.2.2.2.2.1,())))))),())else bM (q.q352 y8.1.1 y8.1.2.1 y8.1.2.2.1 y8.1.2.2.2.1 y8.1.2.2.2.2.1 y8.1.2.2.2.2.2.1) fun y9=>some ((y9.1.1,(y9.1.2.1,(y9.1.2.2.1,(y9.1.2.2.2.1,(y9.1.2.2.2.2.1,(y9.1.2.2.2.2.2.1,())))))),())) (fun b6=>none)else bM (q.q352 y4.1.1 y4.1.2.1 y4.1.2.2.1 y4.1.2.2.2.1 y4.1.2.2.2.2.1 y4.1.2.2.2.2.2.1) fun y5=>some ((y5.1.1,(y5.1.2.1,(y5.1.2.2.1,(y5.1.2.2.2.1,(y5.1.2.2.2.2.1,(y5.1.2.2.2.2.2.1,())))))),())
def ar2 (q:fQ) (x0:List gU) (x1:di) (x2:List gI) (x3 x4 x5:Int):Option I8:=bif(iG x3 (bP x0))then bif(gV x0 x3)then bif(bW (fZ x0 (0,([],(0,(0,())))) x3).1 6)then bif(gV x0 x3)then bM (afV (fZ x0 (0,([],(0,(0,())))) x3).2.1) fun y0=>bif y0.1 then bM (Ae x0 x1 x2 x3 x4 x5 7) fun y1=>Js y1 q else bM (uB x0 x1 x2 x3 x4 x5) fun y1=>Js y1 q else none else bM (uB x0 x1 x2 x3 x4 x5) fun y0=>Js y0 q else none else bM (uB x0 x1 x2 x3 x4 x5) fun y0=>Js y0 q
noncomputable def afJ (q:fQ):Env:=ed prog tt [(16,aeK)] [(353,9,atp)] [(353,9,ajx q)] [] [(127,o9),(130,Uj),(201,EO),(255,IW),(352,abQ q)]
def akM (q:fQ) {γ:Type} (a:Zo.den->Option γ) (b:aac.den->Option γ) (c:aaQ.den->Option γ) (v:Zo.den):Option γ:=Qm q (fun v0 v1 v2 v3 v4 v5=>a ((),((),()),((v0,v1,v2,v3,v4,()),v5,()))) (fun e0 e1 e2 e3 e4 e5=>b ((),((),()),((e0,e1,e2,e3,e4,()),e5,()))) (c ((),((),()),())) v.2.2.1.1 v.2.2.1.2.1 v.2.2.1.2.2.1 v.2.2.1.2.2.2.1 v.2.2.1.2.2.2.2.1 v.2.2.2.1
theorem azu (q:fQ):dX (afJ q) 353 aqQ (ajx q):=lK (akM q) (h2:=by intros;simp only[akM,Qm,dm,dn,bK,cZ,dw])
theorem aEb (q:fQ):dU (afJ q) 353 aBt:=qj [aqQ] (aD (fM (azu q)) aN)
theorem anG (q:fQ) (H:UQ q):dK (afJ q):=eB (aD Lr aN) [353] (aD ⟨f353,aBt,by kernel_rfl,by kernel_rfl,aEb q⟩ aN) (hx:=(aD jE (aD Gu (aD sO (aD wM (aD H.2.2.2.2.2.1 aN))))))
noncomputable def awP:Code:=(f354.body).getD .skip
noncomputable def ahS:Code:=cA (cA (cA (cB (cB (cB (cA (cB (cA (cA (cA (cB (cB (cB (cB (cB (awP))))))))))))))))
noncomputable def aqR:Code:=cA (cA (cA (cB (cB (cB (cB (cB (awP))))))))
def aiT:dZ:=⟨[0,3,100010],[],[0,3],[],[],[]⟩
def atq:dZ:=⟨[0,2,100005],[],[0],[],[],[]⟩
def Pm:SQ:=⟨us [.ptr 0 0,.u,.u,.v dD] 96,[[.ptr 0 0]],[.box 0 185 [.v oU,.v .str,.slc 1,.v dD,.v dD,.v dD],.arr 1 pg]⟩
def Tt:SQ:=⟨us [.ptr 0 0,.u,.u,.v dD] 96,[[.ptr 0 0]],[.box 0 185 [.v oU,.v .str,.slc 1,.v dD,.v dD,.v dD],.arr 1 pg]⟩
def TD:SQ:=⟨us [] 100,[[.ptr 0 0]],[]⟩
def Lh (q:fQ) {γ:Type} (rec kE:Int->(List gU)->di->Int->Int->Int->(List gI)->Option γ) (kR:Option γ) (v0:Int) (v1:List gU) (v2:di) (v3 v4 v5:Int) (v6:List gI):Option γ:=bM (jF v1 v2 v6 v3 v4 v5 [124]) fun y0=>bif y0.2.1 then bM (xf y0.1.1 y0.1.2.1 y0.1.2.2.1 (dA .i64 y0.1.2.2.2.1 1) y0.1.2.2.2.2.1 y0.1.2.2.2.2.2.1) fun y1=>rec v0 y1.1.1 y1.1.2.1 y1.1.2.2.2.1 y1.1.2.2.2.2.1 y1.1.2.2.2.2.2.1 y1.1.2.2.1 else kE v0 y0.1.1 y0.1.2.1 y0.1.2.2.2.1 y0.1.2.2.2.2.1 y0.1.2.2.2.2.2.1 y0.1.2.2.1
def uF (q:fQ):Nat->Int->(List gU)->di->Int->Int->Int->(List gI)->Option (Tt.den⊕TD.den)
 |0,_,_,_,_,_,_,_=>none
 |n+1,v0,v1,v2,v3,v4,v5,v6=>Lh q (uF q n) (fun e0 e1 e2 e3 e4 e5 e6=>some (.inl ((e0,()),((),()),((e1,e2,e3,e4,e5,()),e6,())))) (some (.inr ((),((),()),()))) v0 v1 v2 v3 v4 v5 v6
def atS (q:fQ) (n:Nat) (v:Pm.den):=uF q n v.1.1 v.2.2.1.1 v.2.2.1.2.1 v.2.2.1.2.2.1 v.2.2.1.2.2.2.1 v.2.2.1.2.2.2.2.1 v.2.2.2.1
noncomputable def adY (q:fQ):dI:=fU aiT Pm Tt TD (.exit 2) (atS q bU) 6
def Zp:SQ:=⟨us [.ptr 0 0,.u,.v .bool] 97,[[.ptr 0 0]],[.box 0 185 [.v oU,.v .str,.slc 1,.v dD,.v dD,.v dD],.arr 1 pg]⟩
def aad:SQ:=⟨us [.ptr 0 0] 99,[[.ptr 0 0]],[.box 0 185 [.v oU,.v .str,.slc 1,.v dD,.v dD,.v dD],.arr 1 pg]⟩
def aaR:SQ:=⟨us [] 100,[[.ptr 0 0]],[]⟩
def sK {γ:Type} (q:fQ) (y1:(taF×Di)) (y3:I8) (rec:Bool->(List gU)->di->Int->Int->Int->(List gI)->Option γ) (kR:Option γ):Option γ:=bM (uF q bU y1.2.1 y3.1.1 y3.1.2.1 y3.1.2.2.2.1 y3.1.2.2.2.2.1 y3.1.2.2.2.2.2.1 y3.1.2.2.1) fun y4=>dV y4 (fun a5=>bM (mY a5.2.2.1.1 a5.2.2.1.2.1 a5.2.2.2.1 a5.2.2.1.2.2.1 a5.2.2.1.2.2.2.1 a5.2.2.1.2.2.2.2.1 [41]) fun y6=>bM (lU y6.1.1 y6.1.2.1 y6.1.2.2.1 y6.1.2.2.2.1 y6.1.2.2.2.2.1 y6.1.2.2.2.2.2.1) fun y7=>bM (CZ y7.1.1 y7.1.2.1 y7.1.2.2.1 y7.1.2.2.2.1 y7.1.2.2.2.2.1 y7.1.2.2.2.2.2.1) fun y8=>bif y8.2.1 then bM (q.q129 y8.1.1 y8.1.2.1 y8.1.2.2.1 y8.1.2.2.2.1 y8.1.2.2.2.2.1 y8.1.2.2.2.2.2.1) fun y9=>bM (jW y9.1.1 y9.1.2.1 y9.1.2.2.1 y9.1.2.2.2.1 y9.1.2.2.2.2.1 y9.1.2.2.2.2.2.1 a5.1.1) fun y10=>bM (jF y10.1.1 y10.1.2.1 y10.1.2.2.1 y10.1.2.2.2.1 y10.1.2.2.2.2.1 y10.1.2.2.2.2.2.1 [121]) fun y11=>bif y11.2.1 then bM (lU y11.1.1 y11.1.2.1 y11.1.2.2.1 (dA .i64 y11.1.2.2.2.1 1) y11.1.2.2.2.2.1 y11.1.2.2.2.2.2.1) fun y12=>rec y11.2.1 y12.1.1 y12.1.2.1 y12.1.2.2.2.1 y12.1.2.2.2.2.1 y12.1.2.2.2.2.2.1 y12.1.2.2.1 else rec y11.2.1 y11.1.1 y11.1.2.1 y11.1.2.2.2.1 y11.1.2.2.2.2.1 y11.1.2.2.2.2.2.1 y11.1.2.2.1 else bM (jW y8.1.1 y8.1.2.1 y8.1.2.2.1 y8.1.2.2.2.1 y8.1.2.2.2.2.1 y8.1.2.2.2.2.2.1 a5.1.1) fun y9=>bM (jF y9.1.1 y9.1.2.1 y9.1.2.2.1 y9.1.2.2.2.1 y9.1.2.2.2.2.1 y9.1.2.2.2.2.2.1 [121]) fun y10=>bif y10.2.1 then bM (lU y10.1.1 y10.1.2.1 y10.1.2.2.1 (dA .i64 y10.1.2.2.2.1 1) y10.1.2.2.2.2.1 y10.1.2.2.2.2.2.1) fun y11=>rec y10.2.1 y11.1.1 y11.1.2.1 y11.1.2.2.2.1 y11.1.2.2.2.2.1 y11.1.2.2.2.2.2.1 y11.1.2.2.1 else rec y10.2.1 y10.1.1 y10.1.2.1 y10.1.2.2.2.1 y10.1.2.2.2.2.1 y10.1.2.2.2.2.2.1 y10.1.2.2.1) (fun b5=>kR)
def Lj (q:fQ) {γ:Type} (rec:Bool->(List gU)->di->Int->Int->Int->(List gI)->Option γ) (kE:(List gU)->di->Int->Int->Int->(List gI)->Option γ) (kR:Option γ) (v0:Bool) (v1:List gU) (v2:di) (v3 v4 v5:Int) (v6:List gI):Option γ:=bif v0 then bM (jF v1 v2 v6 v3 v4 v5 [40]) fun y0=>bif y0.2.1 then bM (rH y0.1.1 y0.1.2.1 y0.1.2.2.1 y0.1.2.2.2.1 y0.1.2.2.2.2.1 y0.1.2.2.2.2.2.1 15) fun y1=>bM (jF y1.1.1 y1.1.2.1 y1.1.2.2.1 y1.1.2.2.2.1 y1.1.2.2.2.2.1 y1.1.2.2.2.2.2.1 [40]) fun y2=>bif y2.2.1 then bM (xf y2.1.1 y2.1.2.1 y2.1.2.2.1 (dA .i64 y2.1.2.2.2.1 1) y2.1.2.2.2.2.1 y2.1.2.2.2.2.2.1) fun y3=>sK q y1 y3 rec kR else bM (xf y2.1.1 y2.1.2.1 y2.1.2.2.1 y2.1.2.2.2.1 y2.1.2.2.2.2.1 y2.1.2.2.2.2.2.1) fun y3=>sK q y1 y3 rec kR else bif(iG y0.1.2.2.2.1 (bP y0.1.1))then bif(gV y0.1.1 y0.1.2.2.2.1)then bif(bW (fZ y0.1.1 (0,([],(0,(0,())))) y0.1.2.2.2.1).1 6)then bM (jF y0.1.1 y0.1.2.1 y0.1.2.2.1 y0.1.2.2.2.1 y0.1.2.2.2.2.1 y0.1.2.2.2.2.2.1 [122]) fun y1=>bif(!y1.2.1)then bM (rH y1.1.1 y1.1.2.1 y1.1.2.2.1 y1.1.2.2.2.1 y1.1.2.2.2.2.1 y1.1.2.2.2.2.2.1 15) fun y2=>bM (jF y2.1.1 y2.1.2.1 y2.1.2.2.1 y2.1.2.2.2.1 y2.1.2.2.2.2.1 y2.1.2.2.2.2.2.1 [40]) fun y3=>bif y3.2.1 then bM (xf y3.1.1 y3.1.2.1 y3.1.2.2.1 (dA .i64 y3.1.2.2.2.1 1) y3.1.2.2.2.2.1 y3.1.2.2.2.2.2.1) fun y4=>sK q y2 y4 rec kR else bM (xf y3.1.1 y3.1.2.1 y3.1.2.2.1 y3.1.2.2.2.1 y3.1.2.2.2.2.1 y3.1.2.2.2.2.2.1) fun y4=>sK q y2 y4 rec kR else kE y1.1.1 y1.1.2.1 y1.1.2.2.2.1 y1.1.2.2.2.2.1 y1.1.2.2.2.2.2.1 y1.1.2.2.1 else kE y0.1.1 y0.1.2.1 y0.1.2.2.2.1 y0.1.2.2.2.2.1 y0.1.2.2.2.2.2.1 y0.1.2.2.1 else none else kE y0.1.1 y0.1.2.1 y0.1.2.2.2.1 y0.1.2.2.2.2.1 y0.1.2.2.2.2.2.1 y0.1.2.2.1 else kE v1 v2 v3 v4 v5 v6
def yl (q:fQ):Nat->Bool->(List gU)->di->Int->Int->Int->(List gI)->Option (aad.den⊕aaR.den)
 |0,_,_,_,_,_,_,_=>none
 |n+1,v0,v1,v2,v3,v4,v5,v6=>Lj q (yl q n) (fun e0 e1 e2 e3 e4 e5=>some (.inl ((),((),()),((e0,e1,e2,e3,e4,()),e5,())))) (some (.inr ((),((),()),()))) v0 v1 v2 v3 v4 v5 v6
def ayF (q:fQ) (n:Nat) (v:Zp.den):=yl q n v.1.1 v.2.2.1.1 v.2.2.1.2.1 v.2.2.1.2.2.1 v.2.2.1.2.2.2.1 v.2.2.1.2.2.2.2.1 v.2.2.2.1
noncomputable def ajy (q:fQ):dI:=fU atq Zp aad aaR (.exit 0) (ayF q bU) 12
def ar4 (q:fQ) (x0:List gU) (x1:di) (x2:List gI) (x3 x4 x5:Int):Option I8:=bM (xf x0 x1 x2 x3 x4 x5) fun y0=>bM (lU y0.1.1 y0.1.2.1 y0.1.2.2.1 y0.1.2.2.2.1 y0.1.2.2.2.2.1 y0.1.2.2.2.2.2.1) fun y1=>bM (mY y1.1.1 y1.1.2.1 y1.1.2.2.1 y1.1.2.2.2.1 y1.1.2.2.2.2.1 y1.1.2.2.2.2.2.1 [107]) fun y2=>bM (lU y2.1.1 y2.1.2.1 y2.1.2.2.1 y2.1.2.2.2.1 y2.1.2.2.2.2.1 y2.1.2.2.2.2.2.1) fun y3=>bM (yl q bU true y3.1.1 y3.1.2.1 y3.1.2.2.2.1 y3.1.2.2.2.2.1 y3.1.2.2.2.2.2.1 y3.1.2.2.1) fun y4=>dV y4 (fun a5=>bM (mY a5.2.2.1.1 a5.2.2.1.2.1 a5.2.2.2.1 a5.2.2.1.2.2.1 a5.2.2.1.2.2.2.1 a5.2.2.1.2.2.2.2.1 [122]) fun y6=>some ((y6.1.1,(y6.1.2.1,(y6.1.2.2.1,(y6.1.2.2.2.1,(y6.1.2.2.2.2.1,(y6.1.2.2.2.2.2.1,())))))),())) (fun b5=>none)
noncomputable def XI (q:fQ):Env:=ed prog tt [] [(354,10,aiT),(354,5,atq)] [(354,10,adY q),(354,5,ajy q)] [] [(126,xA),(127,o9),(128,Nu),(129,abB q),(131,xB),(201,EO),(326,Ul),(355,ahz)]
def aeE (q:fQ) {γ:Type} (a:Pm.den->Option γ) (b:Tt.den->Option γ) (c:TD.den->Option γ) (v:Pm.den):Option γ:=Lh q (fun v0 v1 v2 v3 v4 v5 v6=>a ((v0,()),((),()),((v1,v2,v3,v4,v5,()),v6,()))) (fun e0 e1 e2 e3 e4 e5 e6=>b ((e0,()),((),()),((e1,e2,e3,e4,e5,()),e6,()))) (c ((),((),()),())) v.1.1 v.2.2.1.1 v.2.2.1.2.1 v.2.2.1.2.2.1 v.2.2.1.2.2.2.1 v.2.2.1.2.2.2.2.1 v.2.2.2.1
theorem auq (q:fQ):dX (XI q) 354 ahS (adY q):=lK (aeE q) (h2:=by intros;simp only[aeE,Lh,dm,dn,bK,cZ,dw])
def akN (q:fQ) {γ:Type} (a:Zp.den->Option γ) (b:aad.den->Option γ) (c:aaR.den->Option γ) (v:Zp.den):Option γ:=Lj q (fun v0 v1 v2 v3 v4 v5 v6=>a ((v0,()),((),()),((v1,v2,v3,v4,v5,()),v6,()))) (fun e0 e1 e2 e3 e4 e5=>b ((),((),()),((e0,e1,e2,e3,e4,()),e5,()))) (c ((),((),()),())) v.1.1 v.2.2.1.1 v.2.2.1.2.1 v.2.2.1.2.2.1 v.2.2.1.2.2.2.1 v.2.2.1.2.2.2.2.1 v.2.2.2.1
theorem azv (q:fQ):dX (XI q) 354 aqR (ajy q):=lK (akN q) (h2:=by intros;simp only[akN,Lj,dm,dn,bK,cZ,dw,sK])
theorem aEc (q:fQ):dU (XI q) 354 awP:=qj [ahS,aqR] (aD (fM (auq q)) (aD (fM (azv q)) aN))
theorem anH (q:fQ) (H:UQ q):dK (XI q):=eB aN [354] (aD ⟨f354,awP,by kernel_rfl,by kernel_rfl,aEc q⟩ aN) (hx:=(aD nD (aD jE (aD Ba (aD H.1 (aD nG (aD sO (aD Gw (aD WZ aN)))))))))
def fF:Nat->fQ
 |0=>⟨(fun _ _ _ _ _ _=>none),(fun _ _ _ _ _ _=>none),(fun _ _ _ _ _ _=>none),(fun _ _ _ _ _ _=>none),(fun _ _ _ _ _ _=>none),(fun _ _ _ _ _ _=>none),(fun _ _ _ _ _ _=>none),(fun _ _ _ _ _ _=>none),(fun _ _ _ _ _ _=>none)⟩
 |r+1=>⟨arS (fF r),arU (fF r),arW (fF r),arX (fF r),ar0 (fF r),ar1 (fF r),zZ (fF r),ar2 (fF r),ar4 (fF r)⟩
def asl (x0:List gU) (x1:di) (x2:List gI) (x3 x4 x5:Int):Option I8:=(fF bU).q129 x0 x1 x2 x3 x4 x5
def avc:gX:=⟨185,UC,[],[],fun x y=>asl x.1 x.2.1 x.2.2.1 x.2.2.2.1 x.2.2.2.2.1 x.2.2.2.2.2.1⟩
theorem aj3: ∀r,UQ (fF r)
 |0=>⟨nU fun _ _=>rfl,nU fun _ _=>rfl,nU fun _ _=>rfl,nU fun _ _=>rfl,nU fun _ _=>rfl,nU fun _ _=>rfl,nU fun _ _=>rfl,nU fun _ _=>rfl,nU fun _ _=>rfl⟩
 |r+1=>by
  have ih:=aj3 r;exact⟨sB (alN (fF r) ih),
   sB (amg (fF r) ih),
   sB (amL (fF r) ih),
   sB (anc (fF r) ih),
   sB (anE (fF r) ih),
   sB (anF (fF r) ih),
   sB (anq (fF r) ih),
   sB (anG (fF r) ih),
   sB (anH (fF r) ih)⟩
theorem aoK:eF prog 129 avc:=(aj3 bU).1
noncomputable def b68:Code:=(f68.body).getD .skip
noncomputable def az7:Code:=cA (cA (cB (cA (cB (cB (b68))))))
noncomputable def az8:Code:=cA (cA (cA (cB (cB (cB (cB (cB (cB (b68)))))))))
def aAo:dZ:=⟨[0,3,4,100003],[],[0,3],[],[2],[(2,pg)]⟩
def aAp:dZ:=⟨[0,5,6,7,100009],[],[5,6],[],[2],[(2,pg)]⟩
def ajR:SP:=⟨us [.v oU,.u,.u,.v .str,.v dD] 56,[]⟩
def agO:SP:=⟨us [.v oU,.u,.u,.v .str] 57,[]⟩
def agZ:SP:=⟨us [.u,.u,.v Vo] 58,[]⟩
def abp {γ:Type} (rec:(List gU)->di->Int->Option γ) (kE:(List gU)->di->Option γ) (kR:(List gI)->Option γ) (v0:List gU) (v1:di) (v2:Int):Option γ:=bif(iG v2 (bP v0))then bif(gV v0 v2)then bM (Ad (fZ v0 (0,([],(0,(0,())))) v2)) fun y0=>bif(iU v1 y0.1)then rec v0 (cu v1 y0.1) (dA .i64 v2 1)else none else none else kE v0 v1
def MF:Nat->(List gU)->di->Int->Option (agO.den⊕agZ.den)
 |0,_,_,_=>none
 |n+1,v0,v1,v2=>abp (MF n) (fun e0 e1=>some (.inl ((e0,e1,()),()))) (fun r0=>some (.inr ((r0,()),()))) v0 v1 v2
def aEo (n:Nat) (v:ajR.den):=MF n v.1.1 v.1.2.1 v.1.2.2.1
noncomputable def atZ:dI:=gQ aAo ajR agO agZ (.exit 0) (aEo bU) 6
def ajS:SP:=⟨us [.v oU,.u,.u,.u,.u,.ptr 1000024 0,.v dD,.v dD] 53,[.arr 1200482 pg,.box 1000024 185 [.v oU,.v .str,.slc 1200482,.v dD,.v dD,.v dD]]⟩
def agP:SP:=⟨us [.u,.u,.u,.u,.u,.ptr 1000024 0,.v dD] 54,[.arr 1200482 pg,.box 1000024 185 [.v oU,.v .str,.slc 1200482,.v dD,.v dD,.v dD]]⟩
def ag0:SP:=⟨us [.u,.u,.v Vo] 58,[]⟩
def abq {γ:Type} (rec:(List gU)->Int->Int->(List gI)->(List gU)->di->Int->Int->Int->Option γ) (kE:Int->(List gI)->(List gU)->di->Int->Int->Int->Option γ) (kR:(List gI)->Option γ) (v0:List gU) (v1 v2:Int) (v3:List gI) (v4:List gU) (v5:di) (v6 v7 v8:Int):Option γ:=bif(iG v6 (bP v0))then bM (jF v4 v5 v3 v6 v7 v8 [110]) fun y0=>bif y0.2.1 then rec v0 v1 v2 y0.1.2.2.1 y0.1.1 y0.1.2.1 (dA .i64 y0.1.2.2.2.1 1) y0.1.2.2.2.2.1 y0.1.2.2.2.2.2.1 else bif(!(bW v2 2))then bM (CZ y0.1.1 y0.1.2.1 y0.1.2.2.1 y0.1.2.2.2.1 y0.1.2.2.2.2.1 y0.1.2.2.2.2.2.1) fun y1=>bif y1.2.1 then bM (asl y1.1.1 y1.1.2.1 y1.1.2.2.1 y1.1.2.2.2.1 y1.1.2.2.2.2.1 y1.1.2.2.2.2.2.1) fun y2=>rec v0 v1 2 y2.1.2.2.1 y2.1.1 y2.1.2.1 y2.1.2.2.2.1 y2.1.2.2.2.2.1 y2.1.2.2.2.2.2.1 else bM (Ae y1.1.1 y1.1.2.1 y1.1.2.2.1 y1.1.2.2.2.1 y1.1.2.2.2.2.1 y1.1.2.2.2.2.2.1 17) fun y2=>rec v0 v1 17 y2.1.2.2.1 y2.1.1 y2.1.2.1 y2.1.2.2.2.1 y2.1.2.2.2.2.1 y2.1.2.2.2.2.2.1 else bM (Ae y0.1.1 y0.1.2.1 y0.1.2.2.1 y0.1.2.2.2.1 y0.1.2.2.2.2.1 y0.1.2.2.2.2.2.1 17) fun y1=>rec v0 v1 17 y1.1.2.2.1 y1.1.1 y1.1.2.1 y1.1.2.2.2.1 y1.1.2.2.2.2.1 y1.1.2.2.2.2.2.1 else kE v1 v3 v4 v5 v6 v7 v8
def Iu:Nat->(List gU)->Int->Int->(List gI)->(List gU)->di->Int->Int->Int->Option (agP.den⊕ag0.den)
 |0,_,_,_,_,_,_,_,_,_=>none
 |n+1,v0,v1,v2,v3,v4,v5,v6,v7,v8=>abq (Iu n) (fun e0 e1 e2 e3 e4 e5 e6=>some (.inl ((e0,()),(e1,(e2,e3,e4,e5,e6,()),())))) (fun r0=>some (.inr ((r0,()),()))) v0 v1 v2 v3 v4 v5 v6 v7 v8
def aEp (n:Nat) (v:ajS.den):=Iu n v.1.1 v.1.2.1 v.1.2.2.1 v.2.1 v.2.2.1.1 v.2.2.1.2.1 v.2.2.1.2.2.1 v.2.2.1.2.2.2.1 v.2.2.1.2.2.2.2.1
noncomputable def at1:dI:=gQ aAp ajS agP ag0 (.exit 2) (aEp bU) 12
def an6 (x0:List gU):Option ((List gI)×Unit):=bM (MF bU x0 [] 0) fun y0=>dV y0 (fun a1=>bM (rH a1.1.1 a1.1.2.1 [] 0 (-1) 0 1) fun y2=>bM (Iu bU a1.1.1 y2.2.1 0 y2.1.2.2.1 y2.1.1 y2.1.2.1 y2.1.2.2.2.1 y2.1.2.2.2.2.1 y2.1.2.2.2.2.2.1) fun y3=>dV y3 (fun a4=>bM (jW a4.2.2.1.1 a4.2.2.1.2.1 a4.2.1 a4.2.2.1.2.2.1 a4.2.2.1.2.2.2.1 a4.2.2.1.2.2.2.2.1 a4.1.1) fun y5=>some (y5.1.2.2.1,())) (fun b4=>some (b4.1.1,()))) (fun b1=>some (b1.1.1,()))
def aAM:Sum:=⟨[oU],[(.list pg,false)],fun x=>an6 x.1⟩
noncomputable def ahZ:Env:=gp prog tt 68 [(125,avb)] [(3,aAo),(9,aAp)] [(3,atZ),(9,at1)] [(126,xA),(127,o9),(128,Nu),(129,avc),(130,Uj),(131,xB)]
def auO {γ:Type} (a:ajR.den->Option γ) (b:agO.den->Option γ) (c:agZ.den->Option γ) (v:ajR.den):Option γ:=abp (fun v0 v1 v2=>a ((v0,v1,v2,()),())) (fun e0 e1=>b ((e0,e1,()),())) (fun r0=>c ((r0,()),())) v.1.1 v.1.2.1 v.1.2.2.1
theorem aEI:dX ahZ 68 az7 atZ:=Bi (auO) (h2:=by intros;simp only[auO,abp,dm,dn,bK,cZ,dw])
def auP {γ:Type} (a:ajS.den->Option γ) (b:agP.den->Option γ) (c:ag0.den->Option γ) (v:ajS.den):Option γ:=abq (fun v0 v1 v2 v3 v4 v5 v6 v7 v8=>a ((v0,v1,v2,()),(v3,(v4,v5,v6,v7,v8,()),()))) (fun e0 e1 e2 e3 e4 e5 e6=>b ((e0,()),(e1,(e2,e3,e4,e5,e6,()),()))) (fun r0=>c ((r0,()),())) v.1.1 v.1.2.1 v.1.2.2.1 v.2.1 v.2.2.1.1 v.2.2.1.2.1 v.2.2.1.2.2.1 v.2.2.1.2.2.2.1 v.2.2.1.2.2.2.2.1
theorem aEJ:dX ahZ 68 az8 at1:=Bi (auP) (h2:=by intros;simp only[auP,abq,dm,dn,bK,cZ,dw])
theorem aGh:dU ahZ 68 b68:=qj [az7,az8] (aD (fM (aEI)) (aD (fM (aEJ)) aN))
theorem arv:dK ahZ:=eA f68 (aD aoJ aN) (aGh) (hx:=(aD nD (aD jE (aD Ba (aD aoK (aD Gu (aD nG aN)))))))
theorem awn:dY prog 68 aAM:=sA arv
end
section
open Bool renaming not_true → aB, not_false → aG
open Int renaming toNat_natCast → aP
open List renaming length_append → ae, length_cons → ak, getElem_mem → aQ, length_nil → aY
open Go.RowKit
theorem aw6 {a b:List UInt8}:iq a b=true↔a=b:=by simp[iq]
theorem VC {a b:List UInt8} (h:a≠b):iq a b=false:=by simp[iq];exact h
theorem aFU {a b:List UInt8} (h:a=b):iq a b=true:=aw6.2 h
def ahb:List di:=[[33],[123],[125],[99,97,115,101],[100,111],[100,111,110,101],[101,108,105,102],[101,108,115,101],[101,115,97,99],[102,105],[102,111,114],[105,102],[105,110],[116,104,101,110],[117,110,116,105,108],[119,104,105,108,101]]
def adG:di:=[32,33,32,123,32,125,32,99,97,115,101,32,100,111,32,100,111,110,101,32,101,108,105,102,32,101,108,115,101,32,101,115,97,99,32,102,105,32,102,111,114,32,105,102,32,105,110,32,116,104,101,110,32,117,110,116,105,108,32,119,104,105,108,101,32]
theorem agk: ∀i:Fin 66,∀n:Fin 66,(sub adG (i.val:Int) ((i.val:Int)+((n.val:Int)+2))).getD 0 0=32->
  (sub adG (i.val:Int) ((i.val:Int)+((n.val:Int)+2))).getD (n.val+1) 0=32->
  (((sub adG (i.val:Int) ((i.val:Int)+((n.val:Int)+2))).drop 1).take n.val).contains 32=false->n.val≠0->i.val+n.val+2<=65->
  ahb.contains (((sub adG (i.val:Int) ((i.val:Int)+((n.val:Int)+2))).drop 1).take n.val)=true:=by decide+kernel
theorem aiJ (x:di) (hx:x.length<=10000): ∀(n k:Nat),k<=x.length->x.length-k<n->
  BP n 32 x (k:Int)=some (.inl ((),()))/\(∀j,k<=j->j<x.length->cO x (j:Int)≠32)\/BP n 32 x (k:Int)=some (.inr ((true,()),()))
 |0,k,h1,h2=>by omega
 |n+1,k,h1,h2=>by
  rw[BP];unfold TZ;by_cases hk:k<x.length
  ·rw[bZ (fH (by rw[bT];omega)),bZ (eP (by omega) (by omega))];by_cases hb:cO x (k:Int)=32
   ·right;rw[bZ (fV hb)]
   ·rw[dE (dW hb),dC (by omega) (by omega)];rcases aiJ x hx n (k+1) (by omega) (by omega)with ⟨h,h'⟩|h
    ·left;refine⟨h,fun j hj hl=> ?_⟩;by_cases hjk:j=k
     ·subst hjk;exact hb
     ·exact h' j (by omega) hl
    ·right;exact h
  ·rw[dE (iy (by rw[bT];omega))];left;exact⟨rfl,fun j hj hl=>by omega⟩
theorem aug {x:List UInt8} (h: ∀j,0<=j->j<x.length->cO x ((j:Nat):Int)≠32):x.contains 32=false:=by
 rw[Bool.eq_false_iff];intro hc;rw[List.contains_iff_mem]at hc;obtain⟨j,hj,he⟩:=List.mem_iff_getElem.1 hc;refine h j (by omega) hj ?_;unfold cO;rw[aP,List.getD_eq_getElem?_getD,List.getElem?_eq_getElem hj,he];rfl
theorem aes (x:di) (hx:x.length<=10000) (h0:x.length≠0) (hb:x.contains 32=false) (hw:ahb.contains x=false): ∀(n i:Nat),i<=66->66-i<n->
  JP n (cu (cu [32] x) [32]) (i:Int)=some (.inl ((),()))
 |0,i,h1,h2=>by omega
 |n+1,i,h1,h2=>by
  have hl:(cu (cu [32] x) [32]).length=x.length+2:=by simp[cu]
  rw[JP];unfold PS;by_cases hi:i+x.length+2<=65
  ·rw[bZ (qV (by rw[bT,hl,dC (by omega) (by omega)];omega))];rw[bZ (gB (by omega) (by rw[bT,hl,dC (by omega) (by omega)];omega) (by rw[bT,bT,hl,dC (by omega) (by omega)];show _<=(65:Int);omega))];rw[dE (VC ?_)]
   ·rw[dC (by omega) (by omega)];exact aes x hx h0 hb hw n (i+1) (by omega) (by omega)
   ·intro he;rw[bT,hl,dC (by omega) (by omega)]at he;change sub adG _ _=_ at he;have:=agk ⟨i,by omega⟩ ⟨x.length,by omega⟩;simp only[]at this;have e2:((i:Int)+((x.length:Nat)+2:Nat):Int)=(i:Int)+((x.length:Int)+2):=by omega
    rw[e2]at he;rw[he]at this;have e3:((cu (cu [32] x) [32]).drop 1).take x.length=x:=by simp[cu]
    rw[e3,hw]at this;exact absurd (this (by simp[cu]) (by simp[cu]) hb h0 hi) (by decide)
  ·rw[dE (Dc (by rw[bT,hl,dC (by omega) (by omega)];omega))]
theorem azK (x:di) (hx:x.length<=10000) (hw:ahb.contains x=false):ah6 x=some (false,()):=by
 unfold ah6;by_cases h0:x.length=0
 ·rw[bZ (fV (by rw[bT,h0];rfl))]
 rw[dE (dW (by rw[bT];omega))];unfold LZ;rcases aiJ x hx bU 0 (by omega) (dO (by omega))with ⟨h,h'⟩|h
 ·rw[show(0:Int)=((0:Nat):Int) from rfl,h];simp only[bK,auu,cond_false];rw[bZ (show iU [32] x=true by unfold iU lm;simp only[ak,aY,decide_eq_true_eq];omega)];rw[bZ (show iU (cu [32] x) [32]=true by unfold iU lm cu;simp only[ae,ak,aY,decide_eq_true_eq];omega)];rw[aes x hx h0 (aug h') hw bU 0 (by omega) (dO (by omega))];rfl
 ·rw[show(0:Int)=((0:Nat):Int) from rfl,h];rfl
theorem aej: ∀k:Fin 17,air ((k.val:Int)+1)=some (I7.getD k.val [],())/\Jy ((k.val:Int)+1)=some (I7.getD k.val [],()):=by
 intro k
 match k with
 |⟨0,_⟩=>exact⟨by kernel_rfl,by kernel_rfl⟩
 |⟨1,_⟩=>exact⟨by kernel_rfl,by kernel_rfl⟩
 |⟨2,_⟩=>exact⟨by kernel_rfl,by kernel_rfl⟩
 |⟨3,_⟩=>exact⟨by kernel_rfl,by kernel_rfl⟩
 |⟨4,_⟩=>exact⟨by kernel_rfl,by kernel_rfl⟩
 |⟨5,_⟩=>exact⟨by kernel_rfl,by kernel_rfl⟩
 |⟨6,_⟩=>exact⟨by kernel_rfl,by kernel_rfl⟩
 |⟨7,_⟩=>exact⟨by kernel_rfl,by kernel_rfl⟩
 |⟨8,_⟩=>exact⟨by kernel_rfl,by kernel_rfl⟩
 |⟨9,_⟩=>exact⟨by kernel_rfl,by kernel_rfl⟩
 |⟨10,_⟩=>exact⟨by kernel_rfl,by kernel_rfl⟩
 |⟨11,_⟩=>exact⟨by kernel_rfl,by kernel_rfl⟩
 |⟨12,_⟩=>exact⟨by kernel_rfl,by kernel_rfl⟩
 |⟨13,_⟩=>exact⟨by kernel_rfl,by kernel_rfl⟩
 |⟨14,_⟩=>exact⟨by kernel_rfl,by kernel_rfl⟩
 |⟨15,_⟩=>exact⟨by kernel_rfl,by kernel_rfl⟩
 |⟨16,_⟩=>exact⟨by kernel_rfl,by kernel_rfl⟩
 |⟨n+17,h⟩=>exact absurd h (by omega)
theorem aAv {x:List UInt8} (hw:I7.contains x=false) {k:Nat} (hk:k<17):I7.getD k []≠x:=by
 rintro rfl;rw[Bool.eq_false_iff]at hw;apply hw;rw[List.contains_iff_mem,List.getD_eq_getElem?_getD,List.getElem?_eq_getElem (show k<I7.length from hk)];exact aQ _
theorem WE (x:di) (hw:I7.contains x=false): ∀(n k:Nat),k<=17->17-k<n->vG n x ((k:Int)+1)=some (.inl ((),()))
 |0,k,h1,h2=>by omega
 |n+1,k,h1,h2=>by
  rw[vG];unfold Gq;by_cases hk:k<17
  ·rw[bZ (qV (by omega)),(aej ⟨k,hk⟩).1,bK,dE (VC (aAv hw hk)),dC (by omega) (by omega)];exact WE x hw n (k+1) (by omega) (by omega)
  ·rw[dE (Dc (by omega))]
theorem akV (x:di) (hw:I7.contains x=false) (a b c:Int): ∀(n k:Nat),k<=17->17-k<n->JO n ((k:Int)+1) a x b c=some (.inl ((),()))
 |0,k,h1,h2=>by omega
 |n+1,k,h1,h2=>by
  rw[JO];unfold PQ;by_cases hk:k<17
  ·rw[bZ (qV (by omega)),(aej ⟨k,hk⟩).2,bK,dE (VC (aAv hw hk)),dC (by omega) (by omega)];exact akV x hw a b c n (k+1) (by omega) (by omega)
  ·rw[dE (Dc (by omega))]
theorem ayP {x:List UInt8} (h:ahb.contains x=true):x=[33]\/x=[123]\/x=[125]\/x=[99,97,115,101]\/x=[100,111]\/x=[100,111,110,101]\/x=[101,108,105,102]\/x=[101,108,115,101]\/x=[101,115,97,99]\/x=[102,105]\/x=[102,111,114]\/x=[105,102]\/x=[105,110]\/x=[116,104,101,110]\/x=[117,110,116,105,108]\/x=[119,104,105,108,101]:=by
 rw[List.contains_iff_mem]at h;simpa [ahb] using h
theorem aEt {x:List UInt8} (h:I7.contains x=true):x=[38,38]\/x=[124,124]\/x=[59,59]\/x=[60,60]\/x=[60,60,45]\/x=[62,62]\/x=[60,38]\/x=[62,38]\/x=[60,62]\/x=[62,124]\/x=[60]\/x=[62]\/x=[38]\/x=[59]\/x=[124]\/x=[40]\/x=[41]:=by
 rw[List.contains_iff_mem]at h;simpa [I7] using h
theorem apQ (x:di) (hx:x.length<=10000) (a b:Int): ∃c:UInt8,aiA x=some ((c.toNat:Int),())/\Ad (6,(x,(a,(b,()))))=some ([c],()):=by
 cases hw:ahb.contains x with
 |true=>
  rcases ayP hw with h|h|h|h|h|h|h|h|h|h|h|h|h|h|h|h
  ·subst h;exact⟨33,by kernel_rfl,by kernel_rfl⟩
  ·subst h;exact⟨123,by kernel_rfl,by kernel_rfl⟩
  ·subst h;exact⟨125,by kernel_rfl,by kernel_rfl⟩
  ·subst h;exact⟨99,by kernel_rfl,by kernel_rfl⟩
  ·subst h;exact⟨100,by kernel_rfl,by kernel_rfl⟩
  ·subst h;exact⟨103,by kernel_rfl,by kernel_rfl⟩
  ·subst h;exact⟨101,by kernel_rfl,by kernel_rfl⟩
  ·subst h;exact⟨108,by kernel_rfl,by kernel_rfl⟩
  ·subst h;exact⟨122,by kernel_rfl,by kernel_rfl⟩
  ·subst h;exact⟨102,by kernel_rfl,by kernel_rfl⟩
  ·subst h;exact⟨114,by kernel_rfl,by kernel_rfl⟩
  ·subst h;exact⟨105,by kernel_rfl,by kernel_rfl⟩
  ·subst h;exact⟨107,by kernel_rfl,by kernel_rfl⟩
  ·subst h;exact⟨116,by kernel_rfl,by kernel_rfl⟩
  ·subst h;exact⟨119,by kernel_rfl,by kernel_rfl⟩
  ·subst h;exact⟨119,by kernel_rfl,by kernel_rfl⟩
 |false=>
  refine⟨120, ?_, ?_⟩
  ·have e: ∀l,ahb.contains l=true->iq x l=false:=fun l hl=>VC fun he=>by rw[he,hl]at hw;cases hw
   (unfold aiA;delta O3 X4)
   simp only[e [33] rfl,e [123] rfl,e [125] rfl,e [99,97,115,101] rfl,e [100,111] rfl,e [100,111,110,101] rfl,e [101,108,105,102] rfl,e [101,108,115,101] rfl,e [101,115,97,99] rfl,e [102,105] rfl,e [102,111,114] rfl,e [105,102] rfl,e [105,110] rfl,e [116,104,101,110] rfl,e [117,110,116,105,108] rfl,e [119,104,105,108,101] rfl,cond_false];rfl
  ·unfold Ad;simp only[show bW 6 2=false from rfl,show bW 6 5=false from rfl,show bW 6 4=false from rfl,show bW 6 6=true from rfl,aB,cond_false,azK x hx hw,bK,aG,cond_true]
theorem aou (x:di) (hx:x.length<=10000) (a b:Int): ∃c:UInt8,aiz x=some ((c.toNat:Int),())/\Ad (4,(x,(a,(b,()))))=some ([c],())/\c≠120:=by
 cases hw:I7.contains x with
 |true=>
  rcases aEt hw with h|h|h|h|h|h|h|h|h|h|h|h|h|h|h|h|h
  ·subst h;exact⟨97,by kernel_rfl,by kernel_rfl,by decide⟩
  ·subst h;exact⟨111,by kernel_rfl,by kernel_rfl,by decide⟩
  ·subst h;exact⟨121,by kernel_rfl,by kernel_rfl,by decide⟩
  ·subst h;exact⟨60,by kernel_rfl,by kernel_rfl,by decide⟩
  ·subst h;exact⟨60,by kernel_rfl,by kernel_rfl,by decide⟩
  ·subst h;exact⟨60,by kernel_rfl,by kernel_rfl,by decide⟩
  ·subst h;exact⟨60,by kernel_rfl,by kernel_rfl,by decide⟩
  ·subst h;exact⟨60,by kernel_rfl,by kernel_rfl,by decide⟩
  ·subst h;exact⟨60,by kernel_rfl,by kernel_rfl,by decide⟩
  ·subst h;exact⟨60,by kernel_rfl,by kernel_rfl,by decide⟩
  ·subst h;exact⟨60,by kernel_rfl,by kernel_rfl,by decide⟩
  ·subst h;exact⟨60,by kernel_rfl,by kernel_rfl,by decide⟩
  ·subst h;exact⟨38,by kernel_rfl,by kernel_rfl,by decide⟩
  ·subst h;exact⟨59,by kernel_rfl,by kernel_rfl,by decide⟩
  ·subst h;exact⟨124,by kernel_rfl,by kernel_rfl,by decide⟩
  ·subst h;exact⟨40,by kernel_rfl,by kernel_rfl,by decide⟩
  ·subst h;exact⟨41,by kernel_rfl,by kernel_rfl,by decide⟩
 |false=>
  refine⟨63, ?_, ?_,by decide⟩
  ·unfold aiz;have:NY x=some (0,()):=by
    unfold NY;by_cases h0:x=[]
    ·rw[bZ (aFU h0)]
    ·rw[dE (VC h0),show(1:Int)=((0:Nat):Int)+1 from rfl,WE x hw bU 0 (by omega) (dO (by omega))];rfl
   rw[this];rfl
  ·unfold Ad;simp only[show bW 4 2=false from rfl,show bW 4 5=false from rfl,show bW 4 4=true from rfl,cond_false,cond_true];rw[show(1:Int)=((0:Nat):Int)+1 from rfl,akV x hw 4 a b bU 0 (by omega) (dO (by omega))];rfl
theorem aAC (k:Int) (x:di) (hx:x.length<=10000) (a b:Int): ∃c:UInt8,RG (k,(x,(a,(b,()))))=some ((c.toNat:Int),())/\Ad (k,(x,(a,(b,()))))=some ([c],())/\(c=120->k=6):=by
 by_cases h2:k=2
 ·subst h2;exact⟨110,rfl,rfl,fun h=>absurd h (by decide)⟩
 by_cases h5:k=5
 ·subst h5;exact⟨35,rfl,rfl,fun h=>absurd h (by decide)⟩
 by_cases h4:k=4
 ·subst h4;obtain⟨c,h,h',h''⟩:=aou x hx a b;refine⟨c, ?_,h',fun e=>absurd e h''⟩;unfold RG;simp only[show bW 4 2=false from rfl,show bW 4 4=true from rfl,cond_false,cond_true,h,bK]
 by_cases h6:k=6
 ·subst h6;obtain⟨c,h,h'⟩:=apQ x hx a b;refine⟨c, ?_,h',fun _=>rfl⟩;unfold RG;simp only[show bW 6 2=false from rfl,show bW 6 4=false from rfl,show bW 6 5=false from rfl,show bW 6 6=true from rfl,cond_false,cond_true,h,bK]
 refine⟨63, ?_, ?_,fun h=>absurd h (by decide)⟩
 ·unfold RG;simp only[dW h2,dW h4,dW h5,dW h6,cond_false];rfl
 ·unfold Ad;simp only[dW h2,dW h4,dW h5,dW h6,cond_false,aG,cond_true]
abbrev Lf:=Int×List UInt8×Int×Int×Unit
def sgn (f:Lf):UInt8:=match Ad f with
 |some ([c],_)=>c
 |_=>0
theorem au2 {f:Lf} (h:f.2.1.length<=10000):RG f=some (((sgn f).toNat:Int),())/\Ad f=some ([sgn f],()):=by
 obtain⟨k,x,a,b,u⟩:=f;obtain⟨c,h1,h2,_⟩:=aAC k x h a b;have e:sgn (k,x,a,b,u)=c:=by unfold sgn;rw[show Ad (k,x,a,b,u)=_ from h2]
 rw[e];exact⟨h1,h2⟩
theorem aAB {f:Lf} (h:f.2.1.length<=10000) (hx:sgn f=120):f.1=6:=by
 obtain⟨k,x,a,b,u⟩:=f;obtain⟨c,h1,h2,h3⟩:=aAC k x h a b;have e:sgn (k,x,a,b,u)=c:=by unfold sgn;rw[show Ad (k,x,a,b,u)=_ from h2]
 exact h3 (e.symm.trans hx)
end
section
open Bool renaming and_eq_true → af, false_eq_true → aj, and_true → ax, not_true → aB, not_false → aG, true_and → aU, false_or → aV, false_and → bz
open Int renaming toNat_natCast → aP
open List renaming length_append → ae, length_singleton → ai, getElem_mem → aQ
open Nat renaming le_refl → ah, lt_or_ge → aS
open Go.RowKit
abbrev Nd:=Int×Int×Int×Int×Unit
def dNd:Nd:=(0,(0,(0,(0,()))))
structure OkF (F:List Lf):Prop where
 len:F.length<=10000
 txt: ∀f∈F,f.2.1.length<=10000
def Dq (F:List Lf) (a:Nat):UInt8:=if h:a<F.length then sgn F[a]else 0
def fP (F:List Lf) (a:Nat) (o:di):Bool:=decide (a<F.length)&&o.contains (Dq F a)
theorem aa8 {F:List Lf} {a:Nat} (h:a<F.length):Dq F a=sgn F[a]:=by unfold Dq;rw[dif_pos h]
theorem KP {F:List Lf} {a:Nat} (h:F.length<=a):Dq F a=0:=by unfold Dq;rw[dif_neg (by omega)]
theorem ig {F:List Lf} {a:Nat} {o:List UInt8} (h:fP F a o=true):a<F.length:=by
 unfold fP at h;simp only[af,decide_eq_true_eq]at h;exact h.1
theorem Am {F:List Lf} {a:Nat} (h:a<F.length):fZ F (0,([],(0,(0,())))) (a:Int)=F[a]:=by
 unfold fZ;rw[aP,List.getD_eq_getElem?_getD,List.getElem?_eq_getElem h];rfl
theorem aAe {α:Type} {l:List α} {k:Nat} (h:l.length*k<=140737488355328):eQ l k=true:=by
 unfold eQ lm;simpa using h
variable {F:List Lf} (hF:OkF F)
include hF
theorem au4 (a k:Nat) (l:List Nd) (u d:Int) (ha:a+k<1000000000):xX F (a:Int) l u d (k:Int)=some ((F,((a:Int),(l,(u,(d,()))))),(((Dq F (a+k)).toNat:Int),())):=by
 have:=hF.len;rw[xX,dC (by omega) (by omega),show(a:Int)+(k:Int)=((a+k:Nat):Int) by omega];by_cases h:a+k<F.length
 ·rw[dE (Dc (by rw[bT];omega)),bZ (eP (by omega) (by omega)),Am h,(au2 (hF.txt _ (aQ h))).1,bK,aa8 h]
 ·rw[bZ (qV (by rw[bT];omega)),KP (by omega)];rfl
theorem oQ (a:Nat) (l:List Nd) (u d:Int) (ha:a<100000000):xX F (a:Int) l u d 0=some ((F,((a:Int),(l,(u,(d,()))))),(((Dq F a).toNat:Int),())):=au4 hF a 0 l u d (by omega)
theorem akW (a:Nat) (l:List Nd) (u d:Int) (ha:a<100000000):xX F (a:Int) l u d 1=some ((F,((a:Int),(l,(u,(d,()))))),(((Dq F (a+1)).toNat:Int),())):=au4 hF a 1 l u d (by omega)
omit hF in
theorem axq (S:di) (c:UInt8):leI 0 (ibW S (c.toNat:Int))=S.contains c:=by
 have:ibW S (c.toNat:Int)=Lib.indexByte S c:=by unfold ibW;congr 1;simp
 rw[this,asC];by_cases h:(S.takeWhile (· !=c)).length<S.length
 ·rw[if_pos h,qV (by omega)];have:=zI (· !=c) S h;simp only[bne_eq_false_iff_eq]at this;have hm:c∈S:=by rw[<-this];exact aQ _
  exact(by simpa using hm:S.contains c=true).symm
 ·rw[if_neg h,Dc (by omega)];have hall: ∀x∈S,x≠c:=fun x hx=>by
   obtain⟨i,hi,rfl⟩:=List.getElem_of_mem hx;have:=ET (· !=c) S i hi (by omega);simpa using this
  have: ¬c∈S:=fun h=>hall c h rfl;exact(by simpa using this:S.contains c=false).symm
theorem Xy (a:Nat) (l:List Nd) (u d:Int) (ha:a<100000000) (o:di) (h0:o.contains 0=false):VM F (a:Int) l u d o=some ((F,((a:Int),(l,(u,(d,()))))),(fP F a o,())):=by
 rw[VM,oQ hF a l u d ha,bK];simp only;unfold fP;by_cases h:Dq F a=0
 ·rw[h,show(!bW (((0:UInt8).toNat:Nat):Int) 0)=false from rfl,cond_false,h0,Bool.and_false]
 ·have hlt:a<F.length:=by
   rcases aS a F.length with h'|h'
   ·exact h'
   ·exact absurd (KP h') h
  rw[dW fun e=>h (UInt8.toNat_inj.1 (by rw[show(0:UInt8).toNat=0 from rfl];omega))];simp only[aG,cond_true];rw[acP,aiy,bK,bK];simp only[axq,decide_eq_true hlt,aU]
def tk (F:List Lf) (a:Nat) (o:di):Nat:=if fP F a o=true then a+1 else a
theorem mW (a:Nat) (l:List Nd) (u d:Int) (ha:a<100000000) (o:di) (h0:o.contains 0=false):lI F (a:Int) l u d o=some ((F,(((tk F a o:Nat):Int),(l,(u,(d,()))))),(fP F a o,())):=by
 rw[lI,Xy hF a l u d ha o h0,bK];simp only;unfold tk;cases h:fP F a o with
 |false=>rfl
 |true=>
  simp only[aB,cond_false,if_true];rw[dC (by omega) (by omega)];rfl
def lnF (F:List Lf):Nat->Nat->Nat
 |0,a=>a
 |n+1,a=>if fP F a [110]=true then lnF F n (a+1)else a
def ln (F:List Lf) (a:Nat):Nat:=lnF F (F.length+1) a
omit hF in
theorem adI: ∀(n m a:Nat),F.length<n+a->F.length<m+a->lnF F n a=lnF F m a
 |0,0,a,_,_=>rfl
 |0,m+1,a,h,_=>by
  rw[lnF,lnF,if_neg];intro h';have:=ig h';omega
 |n+1,0,a,_,h=>by
  rw[lnF,lnF,if_neg];intro h';have:=ig h';omega
 |n+1,m+1,a,h1,h2=>by
  rw[lnF,lnF];split
  ·exact adI n m (a+1) (by omega) (by omega)
  ·rfl
omit hF in
theorem JM (a:Nat):ln F a=if fP F a [110]=true then ln F (a+1)else a:=by
 unfold ln;rw[lnF];split
 ·exact adI _ _ _ (by omega) (by omega)
 ·rfl
omit hF in
theorem agl: ∀(n a:Nat),a<=lnF F n a
 |0,a=>ah _
 |n+1,a=>by
  rw[lnF];split
  ·have:=agl n (a+1);omega
  ·exact ah _
omit hF in
theorem xm (a:Nat):a<=ln F a:=agl _ _
omit hF in
theorem atG: ∀(n a:Nat),a<=F.length->lnF F n a<=F.length
 |0,a,h=>h
 |n+1,a,h=>by
  rw[lnF];split
  ·rename_i h'
   exact atG n (a+1) (ig h')
  ·exact h
omit hF in
theorem yh {a:Nat} (h:a<=F.length):ln F a<=F.length:=atG _ _ h
theorem Sv (l:List Nd) (u d:Int) (v:Bool): ∀(N a:Nat),F.length+1-a<N->a<=F.length->
  JW N v F (a:Int) u d l=some (.inl ((v,()),((),()),((F,((ln F a:Nat):Int),u,d,()),l,())))
 |0,a,h,_=>by omega
 |N+1,a,h,ha=>by
  have:=hF.len;rw[JW,P8,mW hF a l u d (by omega) [110] rfl,bK,JM];simp only;unfold tk;cases h':fP F a [110]with
  |false=>rfl
  |true=>
   simp only[cond_true,if_true];exact Sv l u d v N (a+1) (by have:=ig h';omega) (ig h')
theorem nP (a:Nat) (l:List Nd) (u d:Int) (ha:a<=F.length):pJ F (a:Int) l u d=some ((F,(((ln F a:Nat):Int),(l,(u,(d,()))))),(fP F a [110],())):=by
 have:=hF.len;rw[pJ,mW hF a l u d (by omega) [110] rfl,bK];simp only;have hl:tk F a [110]<=F.length:=by
  unfold tk;split
  ·rename_i h;exact ig h
  ·exact ha
 rw[Sv hF l u d _ bU (tk F a [110]) (dO (by omega)) hl,bK];simp only[dV];have:ln F (tk F a [110])=ln F a:=by
  unfold tk;split
  ·rename_i h;rw[JM a,if_pos h]
  ·rfl
 rw[this]
omit hF in
theorem ad5 (l:List Nd) (k a u t:Int):iH (cu l [(k,(a,(0,(u,()))))]) (dG (bP l)) ((dL (cu l [(k,(a,(0,(u,()))))]) (0,(0,(0,(0,())))) (dG (bP l))).1,((dL (cu l [(k,(a,(0,(u,()))))]) (0,(0,(0,(0,())))) (dG (bP l))).2.1,(t,((dL (cu l [(k,(a,(0,(u,()))))]) (0,(0,(0,(0,())))) (dG (bP l))).2.2.2.1,()))))=l++[(k,a,t,u,())]:=by
 have hn:dG (bP l)=l.length:=by simp[dG,bT]
 rw[hn];unfold iH cu dL;simp[List.getD]
omit hF in
theorem lg (l:List Nd) (x:Nd) (hl:l.length<1000000000):eQ (cu l [x]) 32=true/\gV (cu l [x]) (bP l)=true/\oD (dG (bP l)) (cu l [x])=true:=
 ⟨aAe (by unfold cu;simp only[ae,ai];omega),eP (by rw[bT];omega) (by rw[bT];unfold cu;simp only[ae,ai];omega),qE (by unfold cu;simp[dG,bT])⟩
omit hF in
theorem Iq (a:Nat) (l:List Nd) (u d k:Int) (ha:a<100000000) (hl:l.length<1000000000):DT F (a:Int) l u d k=some ((F,(((a+1:Nat):Int),(l++[(k,(a:Int),((a+1:Nat):Int),u,())],(u,(d,()))))),()):=by
 obtain⟨h1,h2,h3⟩:=lg l (k,((a:Int),(0,(u,())))) hl;rw[DT];simp only[fG,ax,cond_true,h1,h2,h3,ad5];rw[dC (by omega) (by omega)];rfl
omit hF in
theorem ny (a:Nat) (l:List Nd) (u d:Int) (hl:l.length<1000000000):xY F (a:Int) l u d=some ((F,((a:Int),(l++[(18,(a:Int),(a:Int),u,())],(u,(d,()))))),()):=by
 obtain⟨h1,h2,h3⟩:=lg l (18,((a:Int),(0,(u,())))) hl;rw[xY];simp only[fG,ax,cond_true,h1,h2,h3,ad5]
def qK (F:List Lf) (a:Nat) (o:di):Nat:=tk F a o
def wnL (F:List Lf) (a:Nat) (o:di) (l:List Nd) (u:Int):List Nd:=if fP F a o=true then l else l++[(18,(a:Int),(a:Int),u,())]
theorem zJ (a:Nat) (l:List Nd) (u d:Int) (ha:a<100000000) (hl:l.length<1000000000) (o:di) (h0:o.contains 0=false):rJ F (a:Int) l u d o=some ((F,(((qK F a o:Nat):Int),(wnL F a o l u,(u,(d,()))))),()):=by
 rw[rJ,mW hF a l u d ha o h0,bK];unfold qK wnL tk;cases h:fP F a o with
 |true=>rfl
 |false=>
  simp only[aG,cond_true,aj,if_false];rw[ny a l u d hl,bK]
def Dl (F:List Lf) (a:Nat):Bool:=if h:a<F.length then decide (F[a].1=6)else false
omit hF in
theorem Ye {a:Nat} (h:Dl F a=true):a<F.length:=by
 unfold Dl at h;split at h
 ·assumption
 ·cases h
omit hF in
theorem Aj (a:Nat) (l:List Nd) (u d:Int):N8 F (a:Int) l u d=some ((F,((a:Int),(l,(u,(d,()))))),(Dl F a,())):=by
 rw[N8];unfold Dl;by_cases h:a<F.length
 ·rw[bZ (fH (by rw[bT];omega)),bZ (eP (by omega) (by omega)),Am h,dif_pos h,iE]
 ·rw[dE (iy (by rw[bT];omega)),dif_neg h]
def GI (F:List Lf) (a:Nat):Nat:=if Dl F a=true then a+1 else a
def wdL (F:List Lf) (a:Nat) (l:List Nd) (u:Int):List Nd:=if Dl F a=true then l++[(7,(a:Int),((a+1:Nat):Int),u,())]else l++[(18,(a:Int),(a:Int),u,())]
omit hF in
theorem UE (a:Nat) (l:List Nd) (u d:Int) (ha:a<100000000) (hl:l.length<1000000000):N7 F (a:Int) l u d=some ((F,(((GI F a:Nat):Int),(wdL F a l u,(u,(d,()))))),()):=by
 rw[N7,Aj a l u d,bK];unfold GI wdL;cases h:Dl F a with
 |true=>
  simp only[cond_true,if_true];rw[Iq a l u d 7 ha hl,bK]
 |false=>
  simp only[cond_false,aj,if_false];rw[ny a l u d hl,bK]
def Dn (F:List Lf) (a:Nat):Bool:=fP F a [60]||fP F a [35]&&decide (Dq F (a+1)=60)
def Ic (F:List Lf) (a:Nat) (d:Int):Bool:=decide (d<200)&&fP F a [123,40,105,119,114,99]
def Ib (F:List Lf) (a:Nat) (d:Int):Bool:=fP F a [120]||(Dn F a||Ic F a d)
def qL (F:List Lf) (a:Nat) (d:Int):Bool:=fP F a [33]||Ib F a d
omit hF in
theorem WC (a:Nat) (c:UInt8) (hc:c≠0):bW ((Dq F a).toNat:Int) (c.toNat:Int)=fP F a [c]:=by
 unfold fP;rw[iE];by_cases h:a<F.length
 ·rw[decide_eq_true h,aU,Bool.eq_iff_iff,decide_eq_true_eq];simp only[List.contains_cons,List.contains_nil,Bool.or_false,beq_iff_eq];constructor
  ·intro e;exact UInt8.toNat_inj.1 (by omega)
  ·intro e;rw[e]
 ·rw[decide_eq_false h,bz,KP (by omega)];refine decide_eq_false fun e=>hc (UInt8.toNat_inj.1 ?_);rw[show(0:UInt8).toNat=0 from rfl]at e ⊢;omega
theorem EJ (a:Nat) (l:List Nd) (u d:Int) (ha:a<10000000):acQ F (a:Int) l u d=some ((F,((a:Int),(l,(u,(d,()))))),(Dn F a,())):=by
 rw[acQ,oQ hF a l u d (by omega),bK];simp only;rw[show bW ((Dq F a).toNat:Int) 60=fP F a [60] from WC a 60 (by decide),show bW ((Dq F a).toNat:Int) 35=fP F a [35] from WC a 35 (by decide)];unfold Dn;cases fP F a [60]with
 |true=>rfl
 |false=>
  cases fP F a [35]with
  |false=>rfl
  |true=>
   simp only[cond_true,cond_false,aV,aU];rw[akW hF a l u d (by omega),bK];simp only[iE];congr 3;rw[decide_eq_decide];constructor
   ·intro e;exact UInt8.toNat_inj.1 (by rw[show(60:UInt8).toNat=60 from rfl];omega)
   ·intro e;rw[e];rfl
theorem Dy (a:Nat) (l:List Nd) (u d:Int) (ha:a<10000000):VQ F (a:Int) l u d=some ((F,((a:Int),(l,(u,(d,()))))),(Ic F a d,())):=by
 rw[VQ];unfold Ic;by_cases h:d<200
 ·rw[bZ (fH h),Xy hF a l u d (by omega) _ rfl,bK,decide_eq_true h,aU]
 ·rw[dE (iy h),decide_eq_false h,bz]
theorem Q3 (a:Nat) (l:List Nd) (u d:Int) (ha:a<10000000):acG F (a:Int) l u d=some ((F,((a:Int),(l,(u,(d,()))))),(Ib F a d,())):=by
 rw[acG,oQ hF a l u d (by omega),bK];simp only;rw[show bW ((Dq F a).toNat:Int) 120=fP F a [120] from WC a 120 (by decide)];unfold Ib;cases fP F a [120]with
 |true=>rfl
 |false=>
  simp only[cond_false,aV];rw[EJ hF a l u d ha,bK];simp only;cases Dn F a with
  |true=>rfl
  |false=>
   simp only[cond_false,aV];rw[Dy hF a l u d ha,bK]
theorem Cm (a:Nat) (l:List Nd) (u d:Int) (ha:a<10000000):JA F (a:Int) l u d=some ((F,((a:Int),(l,(u,(d,()))))),(qL F a d,())):=by
 rw[JA,oQ hF a l u d (by omega),bK];simp only;rw[show bW ((Dq F a).toNat:Int) 33=fP F a [33] from WC a 33 (by decide)];unfold qL;cases fP F a [33]with
 |true=>rfl
 |false=>
  simp only[cond_false,aV];rw[Q3 hF a l u d ha,bK]
end
section
open Bool renaming false_eq_true → aj, and_true → ax, true_and → aU, false_or → aV, false_and → bz
open List renaming length_append → ae, length_singleton → ai, length_map → ay, drop_of_length_le → aI, drop_eq_getElem_cons → aO, drop_zero → aX
open Go.RowKit
theorem ac1 (c:UInt8) (o:di) (ho:o.length<1000000): ∀(N k:Nat),o.length-k<N->k<=o.length->
  BP N (c.toNat:Int) o (k:Int)=some (if(o.drop k).contains c=true then .inr ((true,()),())else .inl ((),()))
 |0,k,h,_=>by omega
 |N+1,k,h,hk=>by
  rw[BP,TZ];by_cases e:k<o.length
  ·rw[bZ (fH (by rw[bT];omega)),bZ (eP (by omega) (by omega)),byte_at e,aO e];by_cases h1:o[k]=c
   ·rw[bZ (fV (by rw[h1])),if_pos (by simp[h1])]
   ·rw[dE (dW fun h=>h1 (UInt8.toNat_inj.1 (by omega))),dC (by omega) (by omega),show(k:Int)+1=((k+1:Nat):Int) by omega,ac1 c o ho N (k+1) (by omega) (by omega)];congr 1;have:(o[k]::o.drop (k+1)).contains c=(o.drop (k+1)).contains c:=by
     rw[List.contains_cons];have:(c==o[k])=false:=by simpa using fun h=>h1 h.symm
     rw[this,aV]
    rw[this]
  ·rw[dE (iy (by rw[bT];omega)),aI (by omega)];rfl
theorem aKa (c:UInt8) (o:di) (ho:o.length<1000000):LZ (c.toNat:Int) o=some (o.contains c,()):=by
 have h:=ac1 c o ho bU 0 (dO (by omega)) (by omega);rw[LZ,show BP bU (c.toNat:Int) o 0=_ from h,bK,aX];cases o.contains c with
 |true=>rfl
 |false=>rfl
abbrev iV (F:List Lf):di:=F.map sgn
variable {F:List Lf} (hF:OkF F)
include hF
omit hF in
theorem zF {a:Nat} (h:a<F.length):cO (iV F) (a:Int)=((Dq F a).toNat:Int):=by
 rw[byte_at (by rw[ay];exact h),aa8 h,List.getElem_map]
omit hF in
theorem jo (a:Nat) (l:List Nd) (u d:Int) (o:di) (ho:o.length<1000000):jF F (iV F) l (a:Int) u d o=some ((F,(iV F,(l,((a:Int),(u,(d,())))))),(fP F a o,())):=by
 rw[jF];unfold fP;by_cases h:a<F.length
 ·rw[bZ (fH (by rw[bT,ay];omega)),bZ (eP (by omega) (by rw[ay];omega)),zF h,aKa _ o ho,bK,decide_eq_true h,aU]
 ·rw[dE (iy (by rw[bT,ay];omega)),decide_eq_false h,bz]
theorem JL (l:List Nd) (u d:Int): ∀(N a:Nat) (v:Int),F.length+1-a<N->a<=F.length->0<=v->v<=a->
  ∃v':Int,JU N v F (iV F) (a:Int) u d l=some (.inl ((v',()),((),()),((F,iV F,((ln F a:Nat):Int),u,d,()),l,())))/\v'=v+((ln F a:Nat):Int)-a
 |0,a,v,h,_,_,_=>by omega
 |N+1,a,v,h,ha,hv,hva=>by
  have:=hF.len;rw[JU,P5,jo a l u d [110] (by simp),bK,JM];simp only;cases h':fP F a [110]with
  |false=>exact⟨v,rfl,by simp⟩
  |true=>
   simp only[cond_true,if_true];rw[dC (by omega) (by omega),dC (by omega) (by omega),show(a:Int)+1=((a+1:Nat):Int) by omega];obtain⟨v',h1,h2⟩:=JL l u d N (a+1) (v+1) (by have:=ig h';omega) (ig h') (by omega) (by omega);exact⟨v',h1,by omega⟩
omit hF in
theorem aF8 (a:Nat):fP F a [110]=decide (a<ln F a):=by
 rw[JM];cases h:fP F a [110]with
 |false=>simp
 |true=>
  have:=xm (F:=F) (a+1);rw[if_pos rfl];exact(decide_eq_true (by omega)).symm
theorem mG (a:Nat) (l:List Nd) (u d:Int) (ha:a<=F.length):lU F (iV F) l (a:Int) u d=some ((F,(iV F,(l,(((ln F a:Nat):Int),(u,(d,())))))),(((ln F a:Nat):Int)-a,())):=by
 have:=hF.len;rw[lU];obtain⟨v',h1,h2⟩:=JL hF l u d bU a 0 (dO (by omega)) ha (by omega) (by omega);rw[h1,bK];simp only[dV];rw[h2];congr 3;omega
def jG (k:Int):Bool:=decide (9<=k)&&decide (k<=14)||decide (k=16)
omit hF in
theorem ajH {k:Int} (h1:1<=k) (h2:k<=18):acB k=some (jG k,()):=by
 have: ∀n:Fin 19,n.val≠0->acB ((n.val:Nat):Int)=some (jG ((n.val:Nat):Int),()):=by decide+kernel
 have:=this ⟨k.toNat,by omega⟩ (by simp only;omega);simpa [show((k.toNat:Nat):Int)=k by omega] using this
omit hF in
theorem lL (a:Nat) (l:List Nd) (u d:Int) {k:Int} (h1:1<=k) (h2:k<=18) (hl:l.length<1000000000) (hd:0<=d) (hd2:d<1000000000):
  rH F (iV F) l (a:Int) u d k=some ((F,(iV F,(l++[(k,(a:Int),0,u,())],((a:Int),(((l.length:Nat):Int),((if jG k=true then d+1 else d),())))))),(u,())):=by
 have hfit:eQ (cu l [(k,((a:Int),(0,(u,()))))]) 32=true:=aAe (by unfold cu;simp only[ae,ai];omega);have hsub:eG .i64 (bP (cu l [(k,((a:Int),(0,(u,()))))])) 1=((l.length:Nat):Int):=by
  unfold cu;rw[bT,iJ (by simp only[ae,ai];omega) (by simp only[ae,ai];omega)];simp only[ae,ai];omega
 rw[rH];simp only[fG,ax,cond_true,hfit,ajH h1 h2,bK,hsub];cases jG k with
 |true=>
  simp only[cond_true,if_true];rw[dC (by omega) (by omega)];rfl
 |false=>rfl
def acn (l:List Nd) (i:Nat) (t:Int):List Nd:=iH l i ((dL l dNd i).1,(dL l dNd i).2.1,t,(dL l dNd i).2.2.2.1,())
omit hF in
theorem aq4 (l:List Nd) (i:Nat) (t:Int):(acn l i t).length=l.length:=tK
omit hF in
theorem uT (a:Nat) (l:List Nd) (u d:Int) (i:Nat) (hi:i<l.length) {k:Int} (hk:(dL l dNd i).1=k) (h1:1<=k) (h2:k<=18) (hd:0<=d) (hd2:d<1000000000):
  jW F (iV F) l (a:Int) ((i:Nat):Int) d u=some ((F,(iV F,(acn l i (a:Int),((a:Int),(u,((if jG k=true then d-1 else d),())))))),()):=by
 have hn:dG ((i:Nat):Int)=i:=by simp[dG]
 have hin: ∀x,gV (iH l i x) ((i:Nat):Int)=true:=fun x=>eP (by omega) (by rw[tK];omega);have hlt: ∀x,oD i (iH l i x)=true:=fun x=>qE (by rw[tK];exact hi);have ji: ∀x,dL (iH l i x) (0,(0,(0,(0,())))) i=x:=fun x=>F8 hi
 (rewrite [jW];delta Fb;rw[bZ (eP (by omega) (by omega)),hn,bZ (qE hi)])
 simp only[hin,hlt,ji,cond_true];have hk':(dL l (0,(0,(0,(0,())))) i).1=k:=hk;rw[hk',ajH h1 h2,bK];simp only;unfold acn;rw[show dNd=(0,(0,(0,(0,())))) from rfl,hk'];cases jG k with
 |true=>
  simp only[cond_true,if_true];rw[iJ (by omega) (by omega)]
 |false=>rfl
omit hF in
theorem S9 (l:List Nd) (x:Nd):dL (l++[x]) dNd l.length=x:=by
 unfold dL;simp[List.getD]
omit hF in
theorem VB (l:List Nd) (k a u t:Int):acn (l++[(k,a,0,u,())]) l.length t=l++[(k,a,t,u,())]:=by
 unfold acn;rw[S9];simp[iH]
omit hF in
theorem xu (a:Nat) (l:List Nd) (u d:Int) (hl:l.length<1000000000) (hd:0<=d) (hd2:d<1000000000):
  uB F (iV F) l (a:Int) u d=some ((F,(iV F,(l++[(18,(a:Int),(a:Int),u,())],((a:Int),(u,(d,())))))),()):=by
 rw[uB,lL a l u d (by omega) (by omega) hl hd hd2,bK];simp only;rw[show jG 18=false from rfl,if_neg (by simp),uT a _ u d l.length (by simp) (by rw[S9]) (by omega) (by omega) hd hd2,bK];simp only[VB,show jG 18=false from rfl,aj,if_false]
omit hF in
theorem Ox (a:Nat) (l:List Nd) (u d:Int) {k:Int} (h1:1<=k) (h2:k<=18) (hn:jG k=false) (ha:a<100000000) (hl:l.length<1000000000) (hd:0<=d) (hd2:d<1000000000):
  Ae F (iV F) l (a:Int) u d k=some ((F,(iV F,(l++[(k,(a:Int),((a+1:Nat):Int),u,())],(((a+1:Nat):Int),(u,(d,())))))),()):=by
 rw[Ae,lL a l u d h1 h2 hl hd hd2,bK];simp only;rw[hn,if_neg (by simp),dC (by omega) (by omega),show(a:Int)+1=((a+1:Nat):Int) by omega,uT (a+1) _ u d l.length (by simp) (by rw[S9]) h1 h2 hd hd2,bK];simp only[VB,hn,aj,if_false]
omit hF in
theorem zK (a:Nat) (l:List Nd) (u d:Int) (ha:a<100000000) (hl:l.length<1000000000) (hd:0<=d) (hd2:d<1000000000) (o:di) (ho:o.length<1000000):
  mY F (iV F) l (a:Int) u d o=some ((F,(iV F,(wnL F a o l u,(((qK F a o:Nat):Int),(u,(d,())))))),()):=by
 rw[mY,jo a l u d o ho,bK];unfold qK wnL tk;cases h:fP F a o with
 |true=>
  simp only[cond_true,if_true];rw[dC (by omega) (by omega)];rfl
 |false=>
  simp only[cond_false,aj,if_false];rw[xu a l u d hl hd hd2,bK]
omit hF in
theorem ab1 (a:Nat) (l:List Nd) (u d:Int) (ha:a<100000000) (hl:l.length<1000000000) (hd:0<=d) (hd2:d<1000000000):
  xf F (iV F) l (a:Int) u d=some ((F,(iV F,(wdL F a l u,(((GI F a:Nat):Int),(u,(d,())))))),()):=by
 rw[xf];unfold wdL GI Dl;by_cases h:a<F.length
 ·rw[bZ (fH (by rw[bT];omega)),bZ (eP (by omega) (by omega)),Am h];simp only[dif_pos h,decide_eq_true_eq];by_cases h6:F[a].1=6
  ·rw[bZ (fV h6),Ox a l u d (by omega) (by omega) rfl ha hl hd hd2,bK,if_pos h6,if_pos h6]
  ·rw[dE (dW h6),xu a l u d hl hd hd2,bK,if_neg h6,if_neg h6]
 ·rw[dE (iy (by rw[bT];omega)),xu a l u d hl hd hd2,bK];simp only[dif_neg h,aj,if_false]
omit hF in
theorem yQ (a:Nat) (l:List Nd) (u d:Int) (ha:a<10000000):VN F (iV F) l (a:Int) u d=some ((F,(iV F,(l,((a:Int),(u,(d,())))))),(Dn F a,())):=by
 rw[VN,jo a l u d [60] (by simp),bK];unfold Dn;simp only;cases fP F a [60]with
 |true=>rfl
 |false=>
  simp only[cond_false,aV];rw[jo a l u d [35] (by simp),bK];simp only;cases fP F a [35]with
  |false=>rfl
  |true=>
   simp only[cond_true,aU];rw[dC (by omega) (by omega),show(a:Int)+1=((a+1:Nat):Int) by omega];by_cases h:a+1<F.length
   ·rw[bZ (fH (by rw[bT,ay];omega)),bZ (eP (by omega) (by rw[ay];omega)),zF h];simp only[iE];congr 3;rw[decide_eq_decide];constructor
    ·intro e;exact UInt8.toNat_inj.1 (by rw[show(60:UInt8).toNat=60 from rfl];omega)
    ·intro e;rw[e];rfl
   ·rw[dE (iy (by rw[bT,ay];omega)),KP (by omega)];rfl
omit hF in
theorem wO (a:Nat) (l:List Nd) (u d:Int):RD F (iV F) l (a:Int) u d=some ((F,(iV F,(l,((a:Int),(u,(d,())))))),(Ic F a d,())):=by
 rw[RD,jo a l u d _ (by simp),bK];unfold Ic;simp only;cases fP F a [123,40,105,119,114,99]with
 |true=>simp[iG]
 |false=>simp
omit hF in
theorem Vp (a:Nat) (l:List Nd) (u d:Int) (ha:a<10000000):acC F (iV F) l (a:Int) u d=some ((F,(iV F,(l,((a:Int),(u,(d,())))))),(Ib F a d,())):=by
 rw[acC,jo a l u d [120] (by simp),bK];unfold Ib;simp only;cases fP F a [120]with
 |true=>rfl
 |false=>
  simp only[cond_false,aV];rw[yQ a l u d ha,bK];simp only;cases Dn F a with
  |true=>rfl
  |false=>
   simp only[cond_false,aV];rw[wO a l u d,bK]
omit hF in
theorem HY (a:Nat) (l:List Nd) (u d:Int) (ha:a<10000000):CZ F (iV F) l (a:Int) u d=some ((F,(iV F,(l,((a:Int),(u,(d,())))))),(qL F a d,())):=by
 rw[CZ,jo a l u d [33] (by simp),bK];unfold qL;simp only;cases fP F a [33]with
 |true=>rfl
 |false=>
  simp only[cond_false,aV];rw[Vp a l u d ha,bK]
end
section
open Bool renaming and_true → ax
open List renaming length_append → ae, append_assoc → ag, length_singleton → ai, length_cons → ak
open Nat renaming le_refl → ah
open Go.RowKit
abbrev opn (k:Int) (a:Nat) (u:Int):Nd:=(k,((a:Int),(0,(u,()))))
abbrev PR (F:List Lf) (a:Nat) (l:List Nd) (u d:Int):List Lf×Int×List Nd×Int×Int×Unit:=(F,((a:Int),(l,(u,(d,())))))
abbrev RR (F:List Lf) (a:Nat) (l:List Nd) (u d:Int):List Lf×List UInt8×List Nd×Int×Int×Int×Unit:=(F,(iV F,(l,((a:Int),(u,(d,()))))))
theorem lN (l m:List Nd) (k a u t:Int):iH (cu l [(k,(a,(0,(u,()))))]++m) (dG (bP l)) ((dL (cu l [(k,(a,(0,(u,()))))]++m) (0,(0,(0,(0,())))) (dG (bP l))).1,((dL (cu l [(k,(a,(0,(u,()))))]++m) (0,(0,(0,(0,())))) (dG (bP l))).2.1,(t,((dL (cu l [(k,(a,(0,(u,()))))]++m) (0,(0,(0,(0,())))) (dG (bP l))).2.2.2.1,()))))=l++(k,a,t,u,())::m:=by
 have hn:dG (bP l)=l.length:=by simp[dG,bT]
 rw[hn];have hx:dL (cu l [(k,(a,(0,(u,()))))]++m) (0,(0,(0,(0,())))) l.length=(k,a,0,u,()):=by
  unfold dL cu;rw[ag,List.getD_eq_getElem?_getD,List.getElem?_append_right (ah _)];simp
 rw[hx];unfold iH cu;rw[ag];simp[List.set_append]
theorem ql (l m:List Nd) (x:Nd):gV (cu l [x]++m) (bP l)=true/\oD (dG (bP l)) (cu l [x]++m)=true:=
 ⟨eP (by rw[bT];omega) (by rw[bT];unfold cu;simp only[ae,ai];omega),qE (by unfold cu;simp[dG,bT])⟩
theorem oJ (l m:List Nd) (k a u t:Int):acn ((l++[(k,a,0,u,())])++m) l.length t=l++(k,a,t,u,())::m:=by
 unfold acn;have hx:dL ((l++[(k,a,0,u,())])++m) dNd l.length=(k,a,0,u,()):=by
  unfold dL;rw[ag,List.getD_eq_getElem?_getD,List.getElem?_append_right (ah _)];simp
 rw[hx];unfold iH;rw[ag];simp[List.set_append]
theorem oM (l m:List Nd) (k a u:Int):(dL ((l++[(k,a,0,u,())])++m) dNd l.length).1=k:=by
 unfold dL;rw[ag,List.getD_eq_getElem?_getD,List.getElem?_append_right (ah _)];simp
structure I5 (F:List Lf) (a:Nat) (l:List Nd) (d:Int) (K:Nat):Prop where
 len:a<=F.length
 nod:l.length<=16*a+K
 d0:0<=d
 d1:d<=200
structure All (F:List Lf) (n:Nat):Prop where
 list: ∀(a:Nat) (l:List Nd) (u d:Int) (r r':Nat),16*(F.length-a)+12<n->n<=r->n<=r'->I5 F a l d 110->qL F a d=true->
  ∃(a':Nat) (m:List Nd),(fD r).q186 F (a:Int) (cu l [opn 2 a u]) (bP l) d=some (PR F a' (cu l [opn 2 a u]++m) (bP l) d,())/\
   (fF r').q129 F (iV F) l (a:Int) u d=some (RR F a' (l++(2,(a:Int),(a':Int),u,())::m) u d,())/\a<a'/\a'<=F.length/\m.length+1<=16*(a'-a)
 andor: ∀(a:Nat) (l:List Nd) (u d:Int) (r r':Nat),16*(F.length-a)+11<n->n<=r->n<=r'->I5 F a l d 111->qL F a d=true->
  ∃(a':Nat) (m:List Nd),(fD r).q244 F (a:Int) (cu l [opn 3 a u]) (bP l) d=some (PR F a' (cu l [opn 3 a u]++m) (bP l) d,())/\
   (fF r').q200 F (iV F) l (a:Int) u d=some (RR F a' (l++(3,(a:Int),(a':Int),u,())::m) u d,())/\a<a'/\a'<=F.length/\m.length+2<=16*(a'-a)
 pipe: ∀(a:Nat) (l:List Nd) (u d:Int) (r r':Nat),16*(F.length-a)+10<n->n<=r->n<=r'->I5 F a l d 112->qL F a d=true->
  ∃(a':Nat) (m:List Nd),(fD r).q296 F (a:Int) l u d=some (PR F a' (l++m) u d,())/\
   (fF r').q254 F (iV F) l (a:Int) u d=some (RR F a' (l++m) u d,())/\a<a'/\a'<=F.length/\m.length+2<=16*(a'-a)
 nopipe: ∀(a:Nat) (l:List Nd) (u d:Int) (r:Nat),10<n->n<=r->I5 F a l d 130->qL F a d=false->
  (fD r).q296 F (a:Int) l u d=some (PR F a (l++[(18,(a:Int),(a:Int),u,())]) u d,())
 command: ∀(a:Nat) (l:List Nd) (u d:Int) (r r':Nat),16*(F.length-a)+9<n->n<=r->n<=r'->I5 F a l d 113->
  ∃(a':Nat) (m:List Nd),(fD r).q324 F (a:Int) l u d=some (PR F a' (l++m) u d,())/\
   (fF r').q298 F (iV F) l (a:Int) u d=some (RR F a' (l++m) u d,())/\a<=a'/\a'<=F.length/\m.length<=16*(a'-a)+1/\(Ib F a d=true->a<a'/\m.length+3<=16*(a'-a))
 compound: ∀(a:Nat) (l:List Nd) (u d:Int) (r r':Nat),16*(F.length-a)+8<n->n<=r->n<=r'->I5 F a l d 113->Ic F a d=true->
  ∃(a':Nat) (m:List Nd),(fD r).q346 F (a:Int) l u d=some (PR F a' (l++m) u d,())/\
   (fF r').q325 F (iV F) l (a:Int) u d=some (RR F a' (l++m) u d,())/\a<a'/\a'<=F.length/\m.length+3<=16*(a'-a)
 body: ∀(a:Nat) (l:List Nd) (u d:Int) (r r':Nat),16*(F.length-a)+13<n->n<=r->n<=r'->I5 F a l d 110->
  ∃(a':Nat) (m:List Nd),(fD r).q372 F (a:Int) l u d=some (PR F a' (l++m) u d,())/\
   (fF r').q351 F (iV F) l (a:Int) u d=some (RR F a' (l++m) u d,())/\a<=a'/\a'<=F.length/\m.length<=16*(a'-a)+1
variable {F:List Lf} (hF:OkF F)
include hF
theorem alv {n:Nat} (h:All F n) (a:Nat) (l:List Nd) (u d:Int) (r r':Nat) (hm:16*(F.length-a)+13<n+1) (hr:n+1<=r) (hr':n+1<=r') (hp:I5 F a l d 110):
  ∃(a':Nat) (m:List Nd),(fD r).q372 F (a:Int) l u d=some (PR F a' (l++m) u d,())/\
   (fF r').q351 F (iV F) l (a:Int) u d=some (RR F a' (l++m) u d,())/\a<=a'/\a'<=F.length/\m.length<=16*(a'-a)+1:=by
 obtain⟨p1,p2,p3,p4⟩:=hp;have hFl:=hF.len;obtain⟨q,rfl⟩: ∃q,r=q+1:=⟨r-1,by omega⟩;obtain⟨q',rfl⟩: ∃q',r'=q'+1:=⟨r'-1,by omega⟩;have hge:=xm (F:=F) a;have hle:=yh (F:=F) p1;show ∃(a':Nat) (m:List Nd),asb (fD q) F (a:Int) l u d=_/\ar0 (fF q') F (iV F) l (a:Int) u d=_/\_;rw[asb,ar0,nP hF a l u d p1,mG hF a l u d p1,bK,bK];simp only;rw[Cm hF (ln F a) l u d (by omega),HY (ln F a) l u d (by omega),bK,bK];simp only;cases hb:qL F (ln F a) d with
 |true=>
  obtain⟨n1,n2,n3⟩:=lg l (opn 2 (ln F a) u) (by omega);obtain⟨a',m,e1,e2,e3,e4,e5⟩:=h.list (ln F a) l u d q q' (by omega) (by omega) (by omega) ⟨hle,by omega,p3,p4⟩ hb;obtain⟨c1,c2⟩:=ql l m (opn 2 (ln F a) u);refine⟨a',(2,((ln F a:Nat):Int),(a':Int),u,())::m, ?_, ?_,by omega,e4,by simp only[ak];omega⟩
  ·simp only[fG,ax,cond_true,n1];rw[e1,bK];simp only[c1,c2,cond_true,lN]
  ·simp only[cond_true];rw[e2,bK]
 |false=>
  refine⟨ln F a,[(18,((ln F a:Nat):Int),((ln F a:Nat):Int),u,())], ?_, ?_,hge,hle,by simp only[ai];omega⟩
  ·simp only[cond_false];rw[ny (ln F a) l u d (by omega),bK]
  ·simp only[cond_false];rw[xu (ln F a) l u d (by omega) p3 (by omega),bK]
end
section
open Bool renaming false_eq_true → aj
open List renaming length_append → ae, append_assoc → ag, length_singleton → ai
open Nat renaming le_refl → ah
open Go.RowKit
variable {F:List Lf} (hF:OkF F)
include hF
omit hF in
theorem mX {a:Nat} {o:List UInt8} (h:fP F a o=true):tk F a o=a+1:=by unfold tk;rw[if_pos h]
omit hF in
theorem uX {a:Nat} {o:List UInt8} (h:fP F a o=false):tk F a o=a:=by unfold tk;rw[if_neg (by rw[h];simp)]
theorem H6 {n:Nat} (h:All F n) {q q':Nat} (hq:n<=q) (hq':n<=q') (u d v:Int) (hd:0<=d/\d<=200): ∀(N a:Nat) (L:List Nd),F.length-a<N->a<=F.length->16*(F.length-a)+10<n->L.length<=16*a+112->
  ∃(a':Nat) (m:List Nd),JV (fD q) N F (a:Int) u d L=some (.inl ((),((),()),((F,(a':Int),u,d,()),L++m,())))/\
   JS (fF q') N v F (iV F) (a:Int) u d L=some (.inl ((v,()),((),()),((F,iV F,(a':Int),u,d,()),L++m,())))/\a<=a'/\a'<=F.length/\m.length<=16*(a'-a)
 |0,a,L,hN,_,_,_=>by omega
 |N+1,a,L,hN,ha,hn,hL=>by
  have hFl:=hF.len;rw[JV,P7,JS,PZ,mW hF a L u d (by omega) [97,111] rfl,jo a L u d [97,111] (by simp),bK,bK];simp only;cases hb:fP F a [97,111]with
  |false=>
   rw[uX hb];exact⟨a,[],by simp,by simp,ah _,ha,by simp⟩
  |true=>
   have hlt:=ig hb;have hge:=xm (F:=F) (a+1);have hle:=yh (F:=F) (a:=a+1) (by omega);rw[mX hb];simp only[cond_true];rw[dC (by omega) (by omega),show(a:Int)+1=((a+1:Nat):Int) by omega,nP hF (a+1) L u d (by omega),mG hF (a+1) L u d (by omega),bK,bK];simp only;rw[HY (ln F (a+1)) L u d (by omega),bK];simp only;cases hp:qL F (ln F (a+1)) d with
   |true=>
    obtain⟨a1,m1,e1,e2,e3,e4,e5⟩:=h.pipe (ln F (a+1)) L u d q q' (by omega) hq hq' ⟨hle,by omega,hd.1,hd.2⟩ hp;rw[e1,bK];simp only[cond_true];rw[e2,bK];simp only;obtain⟨a',m,f1,f2,f3,f4,f5⟩:=H6 h hq hq' u d v hd N a1 (L++m1) (by omega) e4 (by omega) (by rw[ae];omega);exact⟨a',m1++m,by rw[f1,ag],by rw[f2,ag],by omega,f4,by rw[ae];omega⟩
   |false=>
    rw[h.nopipe (ln F (a+1)) L u d q (by omega) hq ⟨hle,by omega,hd.1,hd.2⟩ hp,bK];simp only[cond_false];rw[xu (ln F (a+1)) L u d (by omega) hd.1 (by omega),bK];simp only;obtain⟨a',m,f1,f2,f3,f4,f5⟩:=H6 h hq hq' u d v hd N (ln F (a+1)) (L++[(18,((ln F (a+1):Nat):Int),((ln F (a+1):Nat):Int),u,())]) (by omega) hle (by omega) (by rw[ae,ai];omega);exact⟨a',[(18,((ln F (a+1):Nat):Int),((ln F (a+1):Nat):Int),u,())]++m,by rw[f1,ag],by rw[f2,ag],by omega,f4,by rw[ae,ai];omega⟩
theorem ae4 {n:Nat} (h:All F n) (a:Nat) (l:List Nd) (u d:Int) (r r':Nat) (hm:16*(F.length-a)+11<n+1) (hr:n+1<=r) (hr':n+1<=r') (hp:I5 F a l d 111) (hb:qL F a d=true):
  ∃(a':Nat) (m:List Nd),(fD r).q244 F (a:Int) (cu l [opn 3 a u]) (bP l) d=some (PR F a' (cu l [opn 3 a u]++m) (bP l) d,())/\
   (fF r').q200 F (iV F) l (a:Int) u d=some (RR F a' (l++(3,(a:Int),(a':Int),u,())::m) u d,())/\a<a'/\a'<=F.length/\m.length+2<=16*(a'-a):=by
 obtain⟨p1,p2,p3,p4⟩:=hp;have hFl:=hF.len;obtain⟨q,rfl⟩: ∃q,r=q+1:=⟨r-1,by omega⟩;obtain⟨q',rfl⟩: ∃q',r'=q'+1:=⟨r'-1,by omega⟩;show ∃(a':Nat) (m:List Nd),arV (fD q) F (a:Int) _ _ d=_/\arU (fF q') F (iV F) l (a:Int) u d=_/\_;have hcl:(cu l [opn 3 a u]).length=l.length+1:=by unfold cu;simp
 obtain⟨a1,m1,e1,e2,e3,e4,e5⟩:=h.pipe a (cu l [opn 3 a u]) (bP l) d q q' (by omega) (by omega) (by omega) ⟨p1,by rw[hcl];omega,p3,p4⟩ hb;obtain⟨a',m,f1,f2,f3,f4,f5⟩:=H6 hF h (q:=q) (q':=q') (by omega) (by omega) (bP l) d u ⟨p3,p4⟩ bU a1 (cu l [opn 3 a u]++m1) (dO (by omega)) e4 (by omega) (by rw[ae,hcl];omega);have hcat:cu l [opn 3 a u]=l++[(3,(a:Int),0,u,())]:=rfl;refine⟨a',m1++m, ?_, ?_,by omega,f4,by rw[ae];omega⟩
 ·rw[arV,e1,bK];simp only;rw[f1,bK];simp only[dV,ag]
 ·rw[arU,lL a l u d (by omega) (by omega) (by omega) p3 (by omega),bK];simp only[show jG 3=false from rfl,aj,if_false];rw[hcat]at e2 f2;rw[show((l.length:Nat):Int)=bP l from rfl,e2,bK];simp only;rw[f2,bK];simp only[dV];rw[ag (l++_),show bP l=((l.length:Nat):Int) from rfl,uT a' _ u d l.length (by simp only[ae,ai];omega) (oM l _ 3 _ _) (by omega) (by omega) p3 (by omega),bK];simp only[oJ,show jG 3=false from rfl,aj,if_false]
end
section
open Bool renaming false_eq_true → aj, and_true → ax, not_true → aB, not_false → aG, false_or → aV
open List renaming length_append → ae, append_assoc → ag, length_singleton → ai, length_cons → ak
open Nat renaming le_refl → ah
open Go.RowKit
variable {F:List Lf} (hF:OkF F)
include hF
theorem Wq {n:Nat} (h:All F n) {q q':Nat} (hq:n<=q) (hq':n<=q') (u d v v0 v1:Int) (hd:0<=d/\d<=200): ∀(N a:Nat) (L:List Nd),F.length-a<N->a<=F.length->16*(F.length-a)+9<n+16->L.length<=16*a+114->
  ∃(a':Nat) (m:List Nd),uD (fD q) N v0 v1 F (a:Int) u d L=some (.inl ((),((v0,v1,()),(),(),()),((),(F,(a':Int),u,d,()),L++m,())))/\
   BM (fF q') N v F (iV F) (a:Int) u d L=some (.inl ((v,()),((),()),((F,iV F,(a':Int),u,d,()),L++m,())))/\a<=a'/\a'<=F.length/\m.length<=16*(a'-a)
 |0,a,L,hN,_,_,_=>by omega
 |N+1,a,L,hN,ha,hn,hL=>by
  have hFl:=hF.len;rw[uD,yL,BM,P9,mW hF a L u d (by omega) [124] rfl,jo a L u d [124] (by simp),bK,bK];simp only;cases hb:fP F a [124]with
  |false=>
   rw[uX hb];exact⟨a,[],by simp,by simp,ah _,ha,by simp⟩
  |true=>
   have hlt:=ig hb;have hge:=xm (F:=F) (a+1);have hle:=yh (F:=F) (a:=a+1) (by omega);rw[mX hb];simp only[cond_true];rw[dC (by omega) (by omega),show(a:Int)+1=((a+1:Nat):Int) by omega,nP hF (a+1) L u d (by omega),mG hF (a+1) L u d (by omega),bK,bK];simp only;obtain⟨a1,m1,e1,e2,e3,e4,e5,_⟩:=h.command (ln F (a+1)) L u d q q' (by omega) hq hq' ⟨hle,by omega,hd.1,hd.2⟩;rw[e1,e2,bK,bK];simp only;obtain⟨a',m,f1,f2,f3,f4,f5⟩:=Wq h hq hq' u d v v0 v1 hd N a1 (L++m1) (by omega) e4 (by omega) (by rw[ae];omega);exact⟨a',m1++m,by rw[f1,ag],by rw[f2,ag],by omega,f4,by rw[ae];omega⟩
theorem ad6 {n:Nat} (a:Nat) (l:List Nd) (u d:Int) (r:Nat) (hr:n+1<=r) (hp:I5 F a l d 130) (hb:qL F a d=false):
  (fD r).q296 F (a:Int) l u d=some (PR F a (l++[(18,(a:Int),(a:Int),u,())]) u d,()):=by
 obtain⟨p1,p2,p3,p4⟩:=hp;have hFl:=hF.len;obtain⟨q,rfl⟩: ∃q,r=q+1:=⟨r-1,by omega⟩;show acu (fD q) F (a:Int) l u d=_;rw[acu,Cm hF a l u d (by omega),bK,hb];simp only[aG,cond_true];rw[ny a l u d (by omega),bK]
theorem aoz {n:Nat} (h:All F n) (a:Nat) (l:List Nd) (u d:Int) (r r':Nat) (hm:16*(F.length-a)+10<n+1) (hr:n+1<=r) (hr':n+1<=r') (hp:I5 F a l d 112) (hb:qL F a d=true):
  ∃(a':Nat) (m:List Nd),(fD r).q296 F (a:Int) l u d=some (PR F a' (l++m) u d,())/\
   (fF r').q254 F (iV F) l (a:Int) u d=some (RR F a' (l++m) u d,())/\a<a'/\a'<=F.length/\m.length+2<=16*(a'-a):=by
 obtain⟨p1,p2,p3,p4⟩:=hp;have hFl:=hF.len;obtain⟨q,rfl⟩: ∃q,r=q+1:=⟨r-1,by omega⟩;obtain⟨q',rfl⟩: ∃q',r'=q'+1:=⟨r'-1,by omega⟩;have hcl:(cu l [opn 4 a u]).length=l.length+1:=by unfold cu;simp
 have hcat:cu l [opn 4 a u]=l++[(4,(a:Int),0,u,())]:=rfl;obtain⟨n1,_,_⟩:=lg l (opn 4 a u) (by omega);have htk:tk F a [33]<=F.length/\a<=tk F a [33]:=by
  unfold tk;split
  ·rename_i h';exact⟨ig h',by omega⟩
  ·exact⟨p1,ah _⟩
 obtain⟨a1,m1,e1,e2,e3,e4,e5,e6⟩:=h.command (tk F a [33]) (cu l [opn 4 a u]) (bP l) d q q' (by omega) (by omega) (by omega) ⟨htk.1,by rw[hcl];omega,p3,p4⟩;have hlt:a<a1/\m1.length+1+2<=16*(a1-a):=by
  cases h33:fP F a [33]with
  |true=>rw[mX h33]at e3 e5;omega
  |false=>
   rw[uX h33]at e3 e5 e6;have hc:Ib F a d=true:=by unfold qL at hb;rw[h33,aV]at hb;exact hb
   have:=e6 hc;omega
 obtain⟨a',m,f1,f2,f3,f4,f5⟩:=Wq hF h (q:=q) (q':=q') (by omega) (by omega) (bP l) d u (bP l) u ⟨p3,p4⟩ bU a1 (cu l [opn 4 a u]++m1) (dO (by omega)) e4 (by omega) (by rw[ae,hcl];omega);obtain⟨c1,c2⟩:=ql l (m1++m) (opn 4 a u);refine⟨a',(4,(a:Int),(a':Int),u,())::(m1++m), ?_, ?_,by omega,f4,by simp only[ak,ae];omega⟩
 ·show acu (fD q) F (a:Int) l u d=_;rw[acu,Cm hF a l u d (by omega),bK,hb];simp only[aB,cond_false,fG,ax,cond_true,n1];rw[mW hF a _ _ d (by omega) [33] rfl,bK];simp only;rw[e1,bK];simp only;rw[f1,bK];simp only[dV,ag,c1,c2,cond_true,lN]
 ·show arW (fF q') F (iV F) l (a:Int) u d=_;rw[arW,lL a l u d (by omega) (by omega) (by omega) p3 (by omega),bK];simp only[show jG 4=false from rfl,aj,if_false];rw[jo a _ _ d [33] (by simp),bK];simp only;rw[hcat]at e2 f2;have hend:bM (BM (fF q') bU u F (iV F) (a1:Int) (bP l) d (l++[(4,(a:Int),0,u,())]++m1)) (fun y3=>dV y3 (fun a4=>
    bM (jW a4.2.2.1.1 a4.2.2.1.2.1 a4.2.2.2.1 a4.2.2.1.2.2.1 a4.2.2.1.2.2.2.1 a4.2.2.1.2.2.2.2.1 a4.1.1) fun y5=>
     some ((y5.1.1,(y5.1.2.1,(y5.1.2.2.1,(y5.1.2.2.2.1,(y5.1.2.2.2.2.1,(y5.1.2.2.2.2.2.1,())))))),())) (fun b4=>none))=some (RR F a' (l++(4,(a:Int),(a':Int),u,())::(m1++m)) u d,()):=by
   rw[f2,bK];simp only[dV];rw[ag (l++_),show bP l=((l.length:Nat):Int) from rfl,uT a' _ u d l.length (by simp only[ae,ai];omega) (oM l _ 4 _ _) (by omega) (by omega) p3 (by omega),bK];simp only[oJ,show jG 4=false from rfl,aj,if_false]
  cases h33:fP F a [33]with
  |true=>
   rw[mX h33]at e2;simp only[cond_true];rw[dC (by omega) (by omega),show(a:Int)+1=((a+1:Nat):Int) by omega,show((l.length:Nat):Int)=bP l from rfl,e2,bK];exact hend
  |false=>
   rw[uX h33]at e2;simp only[cond_false];rw[show((l.length:Nat):Int)=bP l from rfl,e2,bK];exact hend
theorem V3 {n:Nat} (h:All F n) {q q':Nat} (hq:n<=q) (hq':n<=q') (u d v:Int) (hd:0<=d/\d<=200): ∀(N a:Nat) (L:List Nd),F.length-a<N->a<=F.length->16*(F.length-a)+11<n->L.length<=16*a+111->qL F a d=true->
  ∃(a' a1:Nat) (m m1:List Nd),yj (fD q) N F (a:Int) u d L=some (.inl ((),((),()),((F,(a':Int),u,d,()),L++m,())))/\
   (fF q').q200 F (iV F) L (a:Int) u d=some (RR F a1 (L++m1) u d,())/\
   tu (fF q') N v F (iV F) (a1:Int) u d (L++m1)=some (.inl ((v,()),((),()),((F,iV F,(a':Int),u,d,()),L++m,())))/\a<a'/\a'<=F.length/\m.length+1<=16*(a'-a)
 |0,a,L,hN,_,_,_,_=>by omega
 |N+1,a,L,hN,ha,hn,hL,hb=>by
  have hFl:=hF.len;obtain⟨a1,m1,e1,e2,e3,e4,e5⟩:=h.andor a L u d q q' hn hq hq' ⟨ha,by omega,hd.1,hd.2⟩ hb;obtain⟨n1,_,_⟩:=lg L (opn 3 a u) (by omega);obtain⟨c1,c2⟩:=ql L m1 (opn 3 a u);have hP: ∀K:Option _,yj (fD q) (N+1) F (a:Int) u d L=K->yj (fD q) (N+1) F (a:Int) u d L=K:=fun _ h=>h;rw[yj,PY];simp only[fG,ax,cond_true,n1];rw[e1,bK];simp only[c1,c2,cond_true,lN];rw[mW hF a1 _ u d (by omega) [59,38] rfl,bK];simp only;have hL1:(L++(3,(a:Int),(a1:Int),u,())::m1).length=L.length+1+m1.length:=by simp only[ae,ak];omega
  have stop: ∀b:Nat,a1<=b->b<=F.length->((3,(a:Int),(a1:Int),u,())::m1).length+1<=16*(b-a):=fun b h1 h2=>by simp only[ak];omega
  have next: ∀b:Nat,a1<=b->b<=F.length->qL F b d=true->a1<b-> ∃(a':Nat) (m:List Nd) (a2:Nat) (m2:List Nd),
    yj (fD q) N F (b:Int) u d (L++(3,(a:Int),(a1:Int),u,())::m1)=some (.inl ((),((),()),((F,(a':Int),u,d,()),L++m,())))/\
    (fF q').q200 F (iV F) (L++(3,(a:Int),(a1:Int),u,())::m1) (b:Int) u d=some (RR F a2 ((L++(3,(a:Int),(a1:Int),u,())::m1)++m2) u d,())/\
    tu (fF q') N v F (iV F) (a2:Int) u d ((L++(3,(a:Int),(a1:Int),u,())::m1)++m2)=some (.inl ((v,()),((),()),((F,iV F,(a':Int),u,d,()),L++m,())))/\a<a'/\a'<=F.length/\m.length+1<=16*(a'-a):=fun b h1 h2 hb2 hlt=>by
   obtain⟨a',a2,m,m2,f1,f2,f3,f4,f5,f6⟩:=V3 h hq hq' u d v hd N b (L++(3,(a:Int),(a1:Int),u,())::m1) (by omega) h2 (by omega) (by rw[hL1];omega) hb2;exact⟨a',((3,(a:Int),(a1:Int),u,())::m1)++m,a2,m2,by rw[f1,ag],f2,by rw[f3,ag],by omega,f5,by simp only[ae,ak];omega⟩
  cases hs:fP F a1 [59,38]with
  |true=>
   have hlt:=ig hs;have hge:=xm (F:=F) (a1+1);have hle:=yh (F:=F) (a:=a1+1) (by omega);rw[mX hs];simp only[cond_true];rw[nP hF (a1+1) _ u d (by omega),bK];simp only;rw[Cm hF _ _ u d (by omega),bK];simp only;cases hb2:qL F (ln F (a1+1)) d with
   |false=>
    refine⟨ln F (a1+1),a1,_,_,rfl,e2, ?_,by omega,hle,stop _ (by omega) hle⟩;rw[tu,Gm,jo a1 _ u d [59,38] (by simp),bK,hs];simp only[cond_true];rw[dC (by omega) (by omega),show(a1:Int)+1=((a1+1:Nat):Int) by omega,mG hF (a1+1) _ u d (by omega),bK];simp only;rw[HY _ _ u d (by omega),bK,hb2];rfl
   |true=>
    obtain⟨a',m,a2,m2,g1,g2,g3,g4,g5,g6⟩:=next _ (by omega) hle hb2 (by omega)
    refine⟨a',a1,m,_,g1,e2, ?_,g4,g5,g6⟩;rw[tu,Gm,jo a1 _ u d [59,38] (by simp),bK,hs];simp only[cond_true];rw[dC (by omega) (by omega),show(a1:Int)+1=((a1+1:Nat):Int) by omega,mG hF (a1+1) _ u d (by omega),bK];simp only;rw[HY _ _ u d (by omega),bK,hb2];simp only[aB,cond_false];rw[g2,bK];exact g3
  |false=>
   have hge:=xm (F:=F) a1;have hle:=yh (F:=F) e4;have hR:tu (fF q') (N+1) v F (iV F) (a1:Int) u d (L++(3,(a:Int),(a1:Int),u,())::m1)=
     (bif bW (((ln F a1:Nat):Int)-a1) 0 then(some (.inl ((v,()),((),()),((F,iV F,((ln F a1:Nat):Int),u,d,()),L++(3,(a:Int),(a1:Int),u,())::m1,()))):Option (Pn.den⊕Py.den))
     else bif !qL F (ln F a1) d then some (.inl ((v,()),((),()),((F,iV F,((ln F a1:Nat):Int),u,d,()),L++(3,(a:Int),(a1:Int),u,())::m1,())))
      else bM ((fF q').q200 F (iV F) (L++(3,(a:Int),(a1:Int),u,())::m1) ((ln F a1:Nat):Int) u d) fun y3=>tu (fF q') N v y3.1.1 y3.1.2.1 y3.1.2.2.2.1 y3.1.2.2.2.2.1 y3.1.2.2.2.2.2.1 y3.1.2.2.1):=by
    rw[tu,Gm,jo a1 _ u d [59,38] (by simp),bK,hs];simp only[cond_false];rw[mG hF a1 _ u d e4,bK];simp only;cases bW (((ln F a1:Nat):Int)-a1) 0 with
    |true=>rfl
    |false=>
     simp only[cond_false];rw[HY _ _ u d (by omega),bK]
   rw[uX hs];simp only[cond_false];rw[nP hF a1 _ u d e4,bK];simp only;cases hln:fP F a1 [110]with
   |false=>
    have hl0:ln F a1=a1:=by rw[JM,hln];rfl
    rw[hl0]at hR ⊢;refine⟨a1,a1,_,_,rfl,e2, ?_,e3,e4,stop _ (ah _) e4⟩;rw[hR,bZ (fV (by omega))]
   |true=>
    have hlt:a1<ln F a1:=by rw[aF8]at hln;simpa using hln
    simp only[aB,cond_false];rw[dE (dW (by omega))]at hR;rw[Cm hF _ _ u d (by omega),bK];simp only;cases hb2:qL F (ln F a1) d with
    |false=>
     refine⟨ln F a1,a1,_,_,rfl,e2, ?_,by omega,hle,stop _ (by omega) hle⟩;rw[hR,hb2];rfl
    |true=>
     obtain⟨a',m,a2,m2,g1,g2,g3,g4,g5,g6⟩:=next _ (by omega) hle hb2 hlt
     refine⟨a',a1,m,_,g1,e2, ?_,g4,g5,g6⟩;rw[hR,hb2];simp only[aB,cond_false];rw[g2,bK];exact g3
theorem aoi {n:Nat} (h:All F n) (a:Nat) (l:List Nd) (u d:Int) (r r':Nat) (hm:16*(F.length-a)+12<n+1) (hr:n+1<=r) (hr':n+1<=r') (hp:I5 F a l d 110) (hb:qL F a d=true):
  ∃(a':Nat) (m:List Nd),(fD r).q186 F (a:Int) (cu l [opn 2 a u]) (bP l) d=some (PR F a' (cu l [opn 2 a u]++m) (bP l) d,())/\
   (fF r').q129 F (iV F) l (a:Int) u d=some (RR F a' (l++(2,(a:Int),(a':Int),u,())::m) u d,())/\a<a'/\a'<=F.length/\m.length+1<=16*(a'-a):=by
 obtain⟨p1,p2,p3,p4⟩:=hp;have hFl:=hF.len;obtain⟨q,rfl⟩: ∃q,r=q+1:=⟨r-1,by omega⟩;obtain⟨q',rfl⟩: ∃q',r'=q'+1:=⟨r'-1,by omega⟩;have hcl:(cu l [opn 2 a u]).length=l.length+1:=by unfold cu;simp
 have hcat:cu l [opn 2 a u]=l++[(2,(a:Int),0,u,())]:=rfl;obtain⟨a',a1,m,m1,f1,f2,f3,f4,f5,f6⟩:=V3 hF h (q:=q) (q':=q') (by omega) (by omega) (bP l) d u ⟨p3,p4⟩ bU a (cu l [opn 2 a u]) (dO (by omega)) p1 (by omega) (by rw[hcl];omega) hb;refine⟨a',m, ?_, ?_,f4,f5,f6⟩
 ·show arT (fD q) F (a:Int) _ _ d=_;rw[arT,f1,bK];rfl
 ·show arS (fF q') F (iV F) l (a:Int) u d=_;rw[arS,lL a l u d (by omega) (by omega) (by omega) p3 (by omega),bK];simp only[show jG 2=false from rfl,aj,if_false];rw[hcat]at f2 f3;rw[show((l.length:Nat):Int)=bP l from rfl,f2,bK];simp only;rw[f3,bK];simp only[dV];rw[show bP l=((l.length:Nat):Int) from rfl,uT a' _ u d l.length (by simp only[ae,ai];omega) (oM l _ 2 _ _) (by omega) (by omega) p3 (by omega),bK];simp only[oJ,show jG 2=false from rfl,aj,if_false]
end
section
open Bool renaming and_eq_true → af, not_true → aB, not_false → aG
open Go.RowKit
theorem ad3 {s:List UInt8} (hs:s.length<1000000):Rz s 0=some (((nl s:Nat):Int),()):=by
 have:=ap2 hs (a:=0) (Nat.zero_le _);simpa using this
theorem Og {s:List UInt8} (hs:s.length<1000000):acA s=some (decide (nl s≠0/\nl s=s.length),()):=by
 rw[acA];by_cases h0:s=[]
 ·subst h0;rfl
 have hp:0<s.length:=List.length_pos_iff.2 h0;rw[VC h0];simp only[aG,cond_true];rw[ad3 hs,bK];congr 2;by_cases h:nl s=s.length
 ·rw[fV (by rw[bT];omega),decide_eq_true ⟨by omega,h⟩]
 ·rw[dW (by rw[bT];omega),decide_eq_false (fun h'=>h h'.2)]
def jC (s:di):Bool:=decide (nl s≠0/\nl s<s.length)&&decide (s.getD (nl s) 0=61)
theorem ab8 {s:List UInt8} (hs:s.length<1000000): ∃x y,aie s=some (x,(y,(jC s,()))):=by
 have hle:nl s<=s.length:=by unfold nl;split;omega;exact Bh RS s
 rw[aie,ad3 hs,bK];simp only;by_cases h0:nl s=0
 ·exact⟨[],[],by rw[bZ (fV (by omega)),jC,decide_eq_false (fun h=>h.1 h0)];rfl⟩
 rw[dE (dW (by omega))];by_cases h1:nl s=s.length
 ·exact⟨[],[],by rw[bZ (fV (by rw[bT];omega)),jC,decide_eq_false (fun h=>by omega)];rfl⟩
 have h2:nl s<s.length:=by omega
 rw[dE (dW (by rw[bT];omega)),bZ (eP (by omega) (by omega)),byte_at h2];have hg:s.getD (nl s) 0=s[nl s]:=by rw[List.getD_eq_getElem?_getD,List.getElem?_eq_getElem h2];rfl
 by_cases h3:s[nl s]=61
 ·rw[h3,show bW ((61:UInt8).toNat:Int) 61=true from rfl];simp only[aB,cond_false];rw[dC (by omega) (by omega),bZ (gB (by omega) (by omega) (by rw[bT];omega)),bZ (gB (by omega) (by rw[bT];omega) (by omega))];exact⟨_,_,by rw[jC,decide_eq_true ⟨h0,h2⟩,hg,decide_eq_true h3];rfl⟩
 ·rw[dW (fun h=>h3 (UInt8.toNat_inj.1 (by have:((61:UInt8).toNat:Int)=61:=rfl;omega)))];exact⟨[],[],by rw[jC,hg,decide_eq_false h3,Bool.and_false];rfl⟩
theorem aE5 (s:di) (i:Nat):sub s 0 (i:Int)=s.take i:=by simp[sub]
theorem aue {s:List UInt8} {i:Nat} (hi:i<s.length) (h61:s[i]=61):(nl (s.take i)≠0/\nl (s.take i)=(s.take i).length)↔(nl s≠0/\nl s=i):=by
 have hN:RS (61:UInt8)=false:=by decide
 have hL:UK (61:UInt8)=false:=by decide
 have len:(s.take i).length=i:=by simp;omega
 have cut: ∀p:UInt8->Bool,p 61=false->(((s.take i).takeWhile p).length=i↔(s.takeWhile p).length=i)/\((((s.take i).takeWhile p).length=0)↔((s.takeWhile p).length=0)):=by
  intro p hp;have hle:(s.takeWhile p).length<=i:=by
   by_cases c:(s.takeWhile p).length<=i
   ·exact c
   ·have:=ET p s i hi (by omega);rw[h61,hp]at this;cases this
  have e:((s.take i).takeWhile p).length=(s.takeWhile p).length:=by
   refine aJ1 p _ _ (by omega) (fun j hj h=> ?_) fun h=> ?_
   ·rw[List.getElem_take];exact ET p s j (by omega) h
   ·rw[List.getElem_take];exact zI p s (by omega)
  rw[e];exact⟨Iff.rfl,Iff.rfl⟩
 have c1:=cut RS hN;have c2:=cut UK hL;unfold nl EL runN;rw[len];by_cases h:(s.takeWhile UK).length=0
 ·rw[if_pos h,if_pos (c2.2.2 h)]
 ·rw[if_neg h,if_neg (fun h'=>h (c2.2.1 h'))];constructor
  ·rintro ⟨a,b⟩;exact⟨fun h'=>a (c1.2.2 h'),c1.1.1 b⟩
  ·rintro ⟨a,b⟩;exact⟨fun h'=>a (c1.2.1 h'),c1.1.2 b⟩
theorem Du {s:List UInt8} (hs:s.length<1000000): ∀(N k:Nat),s.length-k<N->1<=k->k<=s.length->(jC s=true->k<=nl s)->
  ∃r,FQ N s (k:Int)=some r/\(jC s=true-> ∃n:Nat,r=.inr (((n:Int),()),())/\0<n)/\(jC s=false->r=.inl ((),()))
 |0,k,h,_,_,_=>by omega
 |N+1,k,h,hk1,hk,ha=>by
  rw[FQ,Qj];by_cases h1:k<s.length
  ·have ea:dA .i64 (k:Int) 1=((k+1:Nat):Int):=by rw[dC (by omega) (by omega)];rfl
   rw[bZ (fH (by rw[bT];omega)),bZ (eP (by omega) (by omega)),byte_at h1,ea];have hg:s.getD k 0=s[k]:=by rw[List.getD_eq_getElem?_getD,List.getElem?_eq_getElem h1];rfl
   by_cases h2:s[k]=61
   ·rw[h2,show bW ((61:UInt8).toNat:Int) 61=true from rfl];simp only[cond_true];rw[bZ (gB (by omega) (by omega) (by rw[bT];omega)),aE5,xg (by simp;omega),bK];simp only;have hn:=aue h1 h2;by_cases h3:nl s≠0/\nl s=k
    ·rw[decide_eq_true (hn.2 h3)];refine⟨_,rfl,fun _=>⟨k,rfl,by omega⟩,fun hf=> ?_⟩;have:jC s=true:=by rw[jC,decide_eq_true ⟨h3.1,by omega⟩,h3.2,hg,decide_eq_true h2];rfl
     rw[this]at hf;cases hf
    ·rw[decide_eq_false (fun h'=>h3 (hn.1 h'))];refine Du hs N (k+1) (by omega) (by omega) (by omega) fun h'=> ?_;have h4:=ha h';unfold jC at h';simp only[af,decide_eq_true_eq]at h';omega
   ·rw[dW (fun h=>h2 (UInt8.toNat_inj.1 (by have:((61:UInt8).toNat:Int)=61:=rfl;omega)))];refine Du hs N (k+1) (by omega) (by omega) (by omega) fun h'=> ?_;have h4:=ha h';unfold jC at h';simp only[af,decide_eq_true_eq]at h';by_cases e:k=nl s
    ·subst e;rw[hg]at h';exact absurd h'.2 h2
    ·omega
  ·rw[dE (iy (by rw[bT];omega))];refine⟨_,rfl,fun h'=> ?_,fun _=>rfl⟩;have h4:=ha h';unfold jC at h';simp only[af,decide_eq_true_eq]at h';omega
theorem ae8 {s:List UInt8} (hs:s.length<1000000): ∃n:Int,aiB s=some (n,())/\iG 0 n=jC s/\bW n 0= !jC s:=by
 rw[aiB];by_cases h0:s=[]
 ·subst h0;exact⟨0,rfl,rfl,rfl⟩
 have hp:0<s.length:=List.length_pos_iff.2 h0;obtain⟨r,h1,h2,h3⟩:=Du hs bU 1 (dO (by omega)) (by omega) (by omega) (fun h=>by
  unfold jC at h;simp only[af,decide_eq_true_eq]at h;omega)
 rw[show FQ bU s 1=_ from h1];cases ha:jC s with
 |true=>
  obtain⟨n,e,hn⟩:=h2 ha;subst e;exact⟨n,rfl,fH (by omega),dW (by omega)⟩
 |false=>
  have e:=h3 ha;subst e;exact⟨0,rfl,rfl,rfl⟩
theorem alp {s:List UInt8} (hs:s.length<1000000):aiG s=some (jC s,()):=by
 obtain⟨x,y,h⟩:=ab8 hs;rw[aiG,h,bK]
end
section
open Bool renaming and_eq_true → af, false_eq_true → aj, and_true → ax, not_true → aB, not_false → aG, true_and → aU, false_or → aV, false_and → bz
open List renaming length_append → ae, append_assoc → ag, length_singleton → ai, getElem_mem → aQ
open Nat renaming le_refl → ah, lt_or_ge → aS
open Go.RowKit
variable {F:List Lf} (hF:OkF F)
include hF
omit hF in
theorem Ku {a:Nat} {c:UInt8} (h:fP F a [c]=true):Dq F a=c:=by
 unfold fP at h;simp only[af,List.contains_cons,List.contains_nil,Bool.or_false,beq_iff_eq]at h;exact h.2
omit hF in
theorem TV {a:Nat} {c:UInt8} (hc:c≠0) (h:Dq F a=c):fP F a [c]=true:=by
 have hlt:a<F.length:=by
  rcases aS a F.length with h'|h'
  ·exact h'
  ·rw[KP h']at h;exact absurd h.symm hc
 unfold fP;rw[decide_eq_true hlt,h];simp
def UO (F:List Lf) (a:Nat) (u:Int):Nd:=if Dl F a=true then(7,(a:Int),((a+1:Nat):Int),u,())else(18,(a:Int),(a:Int),u,())
omit hF in
theorem IY (a:Nat) (l:List Nd) (u:Int):wdL F a l u=l++[UO F a u]:=by unfold wdL UO;split<;>rfl
omit hF in
theorem aFa (a:Nat):a<=GI F a/\(a<=F.length->GI F a<=F.length):=by
 unfold GI;split
 ·rename_i h;have:=Ye h;exact⟨by omega,fun _=>by omega⟩
 ·exact⟨ah _,fun h=>h⟩
theorem OG (a:Nat) (l:List Nd) (u d:Int) (ha:a<=F.length) (hl:l.length<100000000) (hd:0<=d) (hd2:d<1000000) (h:Dn F a=true):
  ∃(a':Nat) (m:List Nd),Af F (a:Int) l u d=some (PR F a' (l++m) u d,(true,()))/\acS F (iV F) l (a:Int) u d=some (RR F a' (l++m) u d,())/\a<a'/\a'<=F.length/\m.length=2:=by
 have hFl:=hF.len;obtain⟨n1,_,_⟩:=lg l (opn 8 a u) (by omega);have hcl:(cu l [opn 8 a u]).length=l.length+1:=by unfold cu;simp
 obtain⟨b,hb1,hb2,hb3,hb4⟩: ∃b:Nat,a<b/\b<=F.length/\tk F (tk F a [35]) [60]=b/\(if fP F a [35]=true then a+2 else a+1)=b:=by
  cases h35:fP F a [35]with
  |true=>
   have h1:=Ku h35;unfold Dn at h;have h60:fP F a [60]=false:=by
    cases hq:fP F a [60]with
    |false=>rfl
    |true=>have:=Ku hq;rw[h1]at this;exact absurd this (by decide)
   rw[h60,h35,aV,aU,decide_eq_true_eq]at h;have h2:=TV (by decide) h;exact⟨a+2,by omega,ig h2,by rw[mX h35,mX h2],by simp⟩
  |false=>
   unfold Dn at h;rw[h35,bz,Bool.or_false]at h;exact⟨a+1,by omega,ig h,by rw[uX h35,mX h],by simp⟩
 have htk:tk F a [35]<=F.length:=by
  unfold tk;split
  ·rename_i h';exact ig h'
  ·exact ha
 obtain⟨w1,w2⟩:=aFa (F:=F) b;obtain⟨c1,c2⟩:=ql l [UO F b (bP l)] (opn 8 a u);have hcat:cu l [opn 8 a u]=l++[(8,(a:Int),0,u,())]:=rfl;refine⟨GI F b,[(8,(a:Int),((GI F b:Nat):Int),u,()),UO F b (bP l)], ?_, ?_,by omega,w2 hb2,rfl⟩
 ·rw[Af,EJ hF a l u d (by omega),bK,h];simp only[aB,cond_false,fG,ax,cond_true,n1];rw[mW hF a _ _ d (by omega) [35] rfl,bK];simp only;rw[mW hF _ _ _ d (by omega) [60] rfl,bK,hb3];simp only;rw[UE b _ _ d (by omega) (by rw[hcl];omega),bK];simp only[IY,c1,c2,cond_true,lN]
 ·rw[acS,lL a l u d (by omega) (by omega) (by omega) hd (by omega),bK];simp only[show jG 8=false from rfl,aj,if_false];rw[jo a _ _ d [35] (by simp),bK];simp only;have hend:bM (xf F (iV F) (l++[(8,(a:Int),0,u,())]) (b:Int) ((l.length:Nat):Int) d) (fun y2=>bM (jW y2.1.1 y2.1.2.1 y2.1.2.2.1 y2.1.2.2.2.1 y2.1.2.2.2.2.1 y2.1.2.2.2.2.2.1 u) fun y3=>
    some ((y3.1.1,(y3.1.2.1,(y3.1.2.2.1,(y3.1.2.2.2.1,(y3.1.2.2.2.2.1,(y3.1.2.2.2.2.2.1,())))))),()))=some (RR F (GI F b) (l++[(8,(a:Int),((GI F b:Nat):Int),u,()),UO F b (bP l)]) u d,()):=by
   rw[ab1 b _ _ d (by omega) (by simp only[ae,ai];omega) hd (by omega),bK];simp only[IY];rw[uT (GI F b) _ u d l.length (by simp only[ae,ai];omega) (oM l _ 8 _ _) (by omega) (by omega) hd (by omega),bK];simp only[oJ,show jG 8=false from rfl,aj,if_false];rfl
  cases h35:fP F a [35]with
  |true=>
   rw[h35,if_pos rfl]at hb4;simp only[cond_true];rw[dC (a:=(a:Int)) (by omega) (by omega),dC (by omega) (by omega),show(a:Int)+1+1=(b:Int) by omega];exact hend
  |false=>
   rw[h35,if_neg (by simp)]at hb4;simp only[cond_false];rw[dC (by omega) (by omega),show(a:Int)+1=(b:Int) by omega];exact hend
theorem oC (a:Nat) (l:List Nd) (u d:Int) (ha:a<=F.length) (h:Dn F a=false):Af F (a:Int) l u d=some (PR F a l u d,(false,())):=by
 have hFl:=hF.len;rw[Af,EJ hF a l u d (by omega),bK,h];rfl
theorem EM {q':fQ} (u d v:Int) (hd:0<=d/\d<=201): ∀(N a:Nat) (L:List Nd) (nm:Bool) (w:Int),F.length-a<N->a<=F.length->L.length<=16*a+1000->0<=w->w<=a->(nm=true↔w≠0)->
  ∃(a':Nat) (m:List Nd),FV N nm F (a:Int) u d L=some (.inl ((),((),()),((F,(a':Int),u,d,()),L++m,())))/\
   Aq q' N v w F (iV F) (a:Int) u d L=some (.inl ((v,()),((),()),((F,iV F,(a':Int),u,d,()),L++m,())))/\a<=a'/\a'<=F.length/\m.length<=2*(a'-a)/\((Dn F a||Dl F a)=true->a<a')
 |0,a,L,nm,w,hN,_,_,_,_,_=>by omega
 |N+1,a,L,nm,w,hN,ha,hL,hw0,hwa,hnm=>by
  have hFl:=hF.len;rw[FV,Ql,Aq,KZ,yQ a L u d (by omega),bK];simp only;cases hr:Dn F a with
  |true=>
   obtain⟨a1,m1,e1,e2,e3,e4,e5⟩:=OG hF a L u d ha (by omega) hd.1 (by omega) hr;rw[e1,bK];simp only[cond_true];rw[e2,bK];simp only;obtain⟨a',m,f1,f2,f3,f4,f5,_⟩:=EM u d v hd N a1 (L++m1) nm w (by omega) e4 (by rw[ae];omega) hw0 (by omega) hnm;exact⟨a',m1++m,by rw[f1,ag],by rw[f2,ag],by omega,f4,by rw[ae];omega,fun _=>by omega⟩
  |false=>
   rw[oC hF a L u d ha hr,bK];simp only[cond_false];rw[Aj a L u d,bK];simp only;cases hi:Dl F a with
   |false=>
    refine⟨a,[],by simp, ?_,ah _,ha,by simp,fun h=>by simp at h⟩;by_cases h:a<F.length
    ·have h6:F[a].1≠6:=by
      unfold Dl at hi;rw[dif_pos h]at hi;simpa using hi
     rw[bZ (fH (by rw[bT];omega)),bZ (eP (by omega) (by omega)),Am h,dE (dW h6)];simp
    ·rw[dE (iy (by rw[bT];omega))];simp
   |true=>
    have h:=Ye hi;have h6:F[a].1=6:=by
     unfold Dl at hi;rw[dif_pos h]at hi;simpa using hi
    have hin:gV F (a:Int)=true:=eP (by omega) (by omega);have hg:=hF.txt _ (aQ h);obtain⟨y,y1,y2,y3⟩:=ae8 (s:=F[a].2.1) (by omega);simp only[aB,cond_false];rw[bZ (fH (by rw[bT];omega)),hin];simp only[cond_true,Am h,fV h6];rw[alp (by omega),bK,y1,bK];simp only[y2];have go: ∀(k:Int) (nm':Bool) (w':Int),0<=w'->w'<=((a+1:Nat):Int)->(nm'=true↔w'≠0)-> ∃(a':Nat) (m:List Nd),
      FV N nm' F ((a+1:Nat):Int) u d (L++[(k,(a:Int),((a+1:Nat):Int),u,())])=some (.inl ((),((),()),((F,(a':Int),u,d,()),L++m,())))/\
      Aq q' N v w' F (iV F) ((a+1:Nat):Int) u d (L++[(k,(a:Int),((a+1:Nat):Int),u,())])=some (.inl ((v,()),((),()),((F,iV F,(a':Int),u,d,()),L++m,())))/\a<=a'/\a'<=F.length/\m.length<=2*(a'-a)/\((false||true)=true->a<a'):=fun k nm' w' h1 h2 h3=>by
     obtain⟨a',m,f1,f2,f3,f4,f5,_⟩:=EM u d v hd N (a+1) (L++[(k,(a:Int),((a+1:Nat):Int),u,())]) nm' w' (by omega) (by omega) (by rw[ae,ai];omega) h1 h2 h3;exact⟨a',[(k,(a:Int),((a+1:Nat):Int),u,())]++m,by rw[f1,ag],by rw[f2,ag],by omega,f4,by rw[ae,ai];omega,fun _=>by omega⟩
    have hadd:dA .i64 w 1=w+1:=dC (by omega) (by omega);have yes: ∀w',w'=w+1->(true=true↔w'≠0):=fun w' e=>⟨fun _=>by omega,fun _=>rfl⟩;have l6:=Iq (F:=F) a L u d 6 (by omega) (by omega);have l7:=Iq (F:=F) a L u d 7 (by omega) (by omega);have o6:=Ox (F:=F) a L u d (k:=6) (by omega) (by omega) rfl (by omega) (by omega) hd.1 (by omega);have o7:=Ox (F:=F) a L u d (k:=7) (by omega) (by omega) rfl (by omega) (by omega) hd.1 (by omega);by_cases hw:w=0
    ·have hnf:nm=false:=by
      cases nm with
      |false=>rfl
      |true=>exact absurd hw (hnm.1 rfl)
     subst hnf;rw[fV hw];simp only[aG,cond_true];cases jC F[a].2.1 with
     |true=>
      simp only[cond_true];rw[l6,o6,bK,bK];exact go 6 false w hw0 (by omega) ⟨fun h=>(by cases h),fun h=>absurd hw h⟩
     |false=>
      simp only[cond_false];rw[l7,o7,bK,bK];simp only[hadd];exact go 7 true (w+1) (by omega) (by omega) (yes _ rfl)
    ·have hnt:nm=true:=hnm.2 hw;subst hnt;rw[dW hw];simp only[aB,cond_false];rw[l7,o7,bK,bK];simp only[hadd];exact go 7 true (w+1) (by omega) (by omega) (yes _ rfl)
end
section
open Bool renaming and_eq_true → af, true_and → aU, false_and → bz
open List renaming length_append → ae, append_assoc → ag, length_singleton → ai, getElem_mem → aQ
open Nat renaming le_refl → ah
open Go.RowKit
variable {F:List Lf} (hF:OkF F)
include hF
def fnB (F:List Lf) (a:Nat) (d:Int):Bool:=fP F a [120]&&(decide (Dq F (a+1)=40)&&(decide (d<200)&&(if h:a<F.length then decide (nl F[a].2.1≠0/\nl F[a].2.1=F[a].2.1.length)else false)))
omit hF in
theorem ahe (a:Nat) (c:UInt8):bW ((Dq F a).toNat:Int) (c.toNat:Int)=decide (Dq F a=c):=by
 rw[iE,decide_eq_decide];exact⟨fun e=>UInt8.toNat_inj.1 (by omega),fun e=>by rw[e]⟩
theorem afY (a:Nat) (l:List Nd) (u d:Int) (ha:a<=F.length):aiE F (a:Int) l u d=some (PR F a l u d,(fnB F a d,())):=by
 have hFl:=hF.len;rw[aiE,oQ hF a l u d (by omega),bK];simp only;rw[show bW ((Dq F a).toNat:Int) 120=fP F a [120] from WC a 120 (by decide)];unfold fnB;cases hx:fP F a [120]with
 |false=>rfl
 |true=>
  have h:=ig hx;simp only[cond_true,aU];rw[akW hF a l u d (by omega),bK];simp only;rw[show bW ((Dq F (a+1)).toNat:Int) 40=decide (Dq F (a+1)=40) from ahe (a+1) 40];cases decide (Dq F (a+1)=40)with
  |false=>rfl
  |true=>
   simp only[cond_true,aU];by_cases hd:d<200
   ·rw[bZ (fH hd),bZ (eP (by omega) (by omega)),Am h,Og (by have:=hF.txt _ (aQ h);omega),bK,dif_pos h,decide_eq_true hd,aU]
   ·rw[dE (iy hd),decide_eq_false hd,bz]
omit hF in
theorem Hy (a:Nat) (o:di):a<=qK F a o/\(a<=F.length->qK F a o<=F.length):=by
 unfold qK tk;split
 ·rename_i h;have:=ig h;exact⟨by omega,fun _=>by omega⟩
 ·exact⟨ah _,fun h=>h⟩
def xG (F:List Lf) (a:Nat) (o:di) (u:Int):List Nd:=if fP F a o=true then []else [(18,(a:Int),(a:Int),u,())]
omit hF in
theorem l9 (a:Nat) (o:di) (l:List Nd) (u:Int):wnL F a o l u=l++xG F a o u:=by
 unfold wnL xG;split<;>simp
omit hF in
theorem uh (a:Nat) (o:di) (u:Int):(xG F a o u).length<=1:=by unfold xG;split<;>simp
theorem alB {n:Nat} (h:All F n) (h1:All F (n-1)) (a:Nat) (l:List Nd) (u d:Int) (q q':Nat) (hm:16*(F.length-a)+9<n+1) (hq:n<=q) (hq':n<=q') (hp:I5 F a l d 113) (hb:fnB F a d=true):
  ∃(a':Nat) (m:List Nd),(fD q).q349 F (a:Int) (cu l [opn 16 a u]) (bP l) (d+1)=some (PR F a' (cu l [opn 16 a u]++m) (bP l) (d+1),())/\
   (bM (rH F (iV F) l (a:Int) u d 16) fun y4=>
    bM (Ae y4.1.1 y4.1.2.1 y4.1.2.2.1 y4.1.2.2.2.1 y4.1.2.2.2.2.1 y4.1.2.2.2.2.2.1 7) fun y5=>
     bM (mY y5.1.1 y5.1.2.1 y5.1.2.2.1 (dA .i64 y5.1.2.2.2.1 1) y5.1.2.2.2.2.1 y5.1.2.2.2.2.2.1 [41]) fun y6=>
      bM (lU y6.1.1 y6.1.2.1 y6.1.2.2.1 y6.1.2.2.2.1 y6.1.2.2.2.2.1 y6.1.2.2.2.2.2.1) fun y7=>
       bM (RD y7.1.1 y7.1.2.1 y7.1.2.2.1 y7.1.2.2.2.1 y7.1.2.2.2.2.1 y7.1.2.2.2.2.2.1) fun y8=>
        bif y8.2.1 then
         bM ((fF q').q325 y8.1.1 y8.1.2.1 y8.1.2.2.1 y8.1.2.2.2.1 y8.1.2.2.2.2.1 y8.1.2.2.2.2.2.1) fun y9=>
          bM (jW y9.1.1 y9.1.2.1 y9.1.2.2.1 y9.1.2.2.2.1 y9.1.2.2.2.2.1 y9.1.2.2.2.2.2.1 y4.2.1) fun y10=>
           some ((y10.1.1,(y10.1.2.1,(y10.1.2.2.1,(y10.1.2.2.2.1,(y10.1.2.2.2.2.1,(y10.1.2.2.2.2.2.1,())))))),())
        else
        bM (uB y8.1.1 y8.1.2.1 y8.1.2.2.1 y8.1.2.2.2.1 y8.1.2.2.2.2.1 y8.1.2.2.2.2.2.1) fun y9=>
         bM (jW y9.1.1 y9.1.2.1 y9.1.2.2.1 y9.1.2.2.2.1 y9.1.2.2.2.2.1 y9.1.2.2.2.2.2.1 y4.2.1) fun y10=>
          some ((y10.1.1,(y10.1.2.1,(y10.1.2.2.1,(y10.1.2.2.2.1,(y10.1.2.2.2.2.1,(y10.1.2.2.2.2.2.1,())))))),()))=some (RR F a' (l++(16,(a:Int),(a':Int),u,())::m) u d,())/\a<a'/\a'<=F.length/\m.length+4<=16*(a'-a):=by
 obtain⟨p1,p2,p3,p4⟩:=hp;have hFl:=hF.len;unfold fnB at hb;simp only[af,decide_eq_true_eq]at hb;obtain⟨b1,b2,b3,_⟩:=hb;have hlt:=ig b1;have hx:Dl F a=true:=by
  unfold Dl;rw[dif_pos hlt];have h1:=Ku b1;rw[aa8 hlt]at h1;exact decide_eq_true (aAB (hF.txt _ (aQ hlt)) h1)
 have h40:=TV (F:=F) (a:=a+1) (c:=40) (by decide) b2;have hlt2:=ig h40;obtain⟨q1,rfl⟩: ∃q1,q=q1+1:=⟨q-1,by omega⟩;have hcat:cu l [opn 16 a u]=l++[(16,(a:Int),0,u,())]:=rfl;have hcl:(cu l [opn 16 a u]).length=l.length+1:=by unfold cu;simp
 have hw1:=Hy (F:=F) (a+2) [41];have hw2:=hw1.2 (by omega);have hwm:=uh (F:=F) (a+2) [41] (bP l);have hge:=xm (F:=F) (qK F (a+2) [41]);have hle:=yh (F:=F) hw2;have hend: ∀(a':Nat) (m:List Nd),bM (jW F (iV F) ((l++[(16,(a:Int),0,u,())])++m) (a':Int) ((l.length:Nat):Int) (d+1) u) (fun y10=>some ((y10.1.1,(y10.1.2.1,(y10.1.2.2.1,(y10.1.2.2.2.1,(y10.1.2.2.2.2.1,(y10.1.2.2.2.2.2.1,())))))),()))=some (RR F a' (l++(16,(a:Int),(a':Int),u,())::m) u d,()):=fun a' m=>by
  rw[uT a' _ u (d+1) l.length (by simp only[ae,ai];omega) (oM l _ 16 _ _) (by omega) (by omega) (by omega) (by omega),bK];simp only[oJ,show jG 16=true from rfl,if_true,show d+1-1=d by omega]
 have hcmp: ∃(a':Nat) (m:List Nd),(bif Ic F (ln F (qK F (a+2) [41])) (d+1)then
    (fD q1).q346 F ((ln F (qK F (a+2) [41]):Nat):Int) ((cu l [opn 16 a u]++[(7,(a:Int),((a+1:Nat):Int),bP l,())])++xG F (a+2) [41] (bP l)) (bP l) (d+1)
   else xY F ((ln F (qK F (a+2) [41]):Nat):Int) ((cu l [opn 16 a u]++[(7,(a:Int),((a+1:Nat):Int),bP l,())])++xG F (a+2) [41] (bP l)) (bP l) (d+1))=some (PR F a' (((cu l [opn 16 a u]++[(7,(a:Int),((a+1:Nat):Int),bP l,())])++xG F (a+2) [41] (bP l))++m) (bP l) (d+1),())/\
   (bif Ic F (ln F (qK F (a+2) [41])) (d+1)then
    (fF q').q325 F (iV F) ((cu l [opn 16 a u]++[(7,(a:Int),((a+1:Nat):Int),bP l,())])++xG F (a+2) [41] (bP l)) ((ln F (qK F (a+2) [41]):Nat):Int) (bP l) (d+1)
   else uB F (iV F) ((cu l [opn 16 a u]++[(7,(a:Int),((a+1:Nat):Int),bP l,())])++xG F (a+2) [41] (bP l)) ((ln F (qK F (a+2) [41]):Nat):Int) (bP l) (d+1))=some (RR F a' (((cu l [opn 16 a u]++[(7,(a:Int),((a+1:Nat):Int),bP l,())])++xG F (a+2) [41] (bP l))++m) (bP l) (d+1),())/\ln F (qK F (a+2) [41])<=a'/\a'<=F.length/\m.length<=16*(a'-ln F (qK F (a+2) [41]))+1:=by
  have hlen:((cu l [opn 16 a u]++[(7,(a:Int),((a+1:Nat):Int),bP l,())])++xG F (a+2) [41] (bP l)).length<=l.length+3:=by
   simp only[ae,ai,hcl];omega
  cases hc:Ic F (ln F (qK F (a+2) [41])) (d+1)with
  |true=>
   obtain⟨a',m,e1,e2,e3,e4,e5⟩:=h1.compound (ln F (qK F (a+2) [41])) ((cu l [opn 16 a u]++[(7,(a:Int),((a+1:Nat):Int),bP l,())])++xG F (a+2) [41] (bP l)) (bP l) (d+1) q1 q' (by omega) (by omega) (by omega) ⟨hle,by omega,by omega,by omega⟩ hc;exact⟨a',m,e1,e2,by omega,e4,by omega⟩
  |false=>
   refine⟨ln F (qK F (a+2) [41]),[(18,((ln F (qK F (a+2) [41]):Nat):Int),((ln F (qK F (a+2) [41]):Nat):Int),bP l,())], ?_, ?_,ah _,hle,by simp⟩
   ·rw[cond_false,ny _ ((cu l [opn 16 a u]++[(7,(a:Int),((a+1:Nat):Int),bP l,())])++xG F (a+2) [41] (bP l)) _ _ (by omega)]
   ·rw[cond_false,xu _ ((cu l [opn 16 a u]++[(7,(a:Int),((a+1:Nat):Int),bP l,())])++xG F (a+2) [41] (bP l)) _ _ (by omega) (by omega) (by omega)]
 obtain⟨a',m,e1,e2,e3,e4,e5⟩:=hcmp;refine⟨a',[(7,(a:Int),((a+1:Nat):Int),bP l,())]++xG F (a+2) [41] (bP l)++m, ?_, ?_,by omega,e4,by simp only[ae,ai];omega⟩
 ·show arZ (fD q1) F (a:Int) _ _ _=_;rw[arZ,UE a _ _ _ (by omega) (by rw[hcl];omega),bK];simp only[wdL,GI,hx,if_true];rw[mW hF (a+1) _ _ _ (by omega) [40] rfl,mX h40,bK];simp only;rw[show a+1+1=a+2 from rfl,zJ hF (a+2) _ _ _ (by omega) (by simp only[ae,ai,hcl];omega) [41] rfl,bK];simp only[l9];rw[nP hF _ _ _ _ hw2,bK];simp only;rw[Dy hF _ _ _ _ (by omega),bK];simp only;cases hc:Ic F (ln F (qK F (a+2) [41])) (d+1)with
  |true=>
   rw[hc,cond_true]at e1;rw[cond_true,e1,bK];simp only[ag]
  |false=>
   rw[hc,cond_false]at e1;rw[cond_false,e1,bK];simp only[ag]
 ·rw[lL a l u d (by omega) (by omega) (by omega) p3 (by omega),bK];simp only[show jG 16=true from rfl,if_true];rw[Ox a _ _ _ (k:=7) (by omega) (by omega) rfl (by omega) (by simp only[ae,ai];omega) (by omega) (by omega),bK];simp only;rw[dC (by omega) (by omega),show((a+1:Nat):Int)+1=((a+2:Nat):Int) by omega,zK (a+2) _ _ _ (by omega) (by simp only[ae,ai];omega) (by omega) (by omega) [41] (by simp),bK];simp only[l9];rw[mG hF _ _ _ _ hw2,bK];simp only;rw[wO,bK];simp only;rw[hcat]at e2;rw[show((l.length:Nat):Int)=bP l from rfl];cases hc:Ic F (ln F (qK F (a+2) [41])) (d+1)with
  |true=>
   rw[hc,cond_true]at e2;rw[cond_true,e2,bK];simp only;rw[ag,ag,show bP l=((l.length:Nat):Int) from rfl,hend];simp only[ag]
  |false=>
   rw[hc,cond_false]at e2;rw[cond_false,e2,bK];simp only;rw[ag,ag,show bP l=((l.length:Nat):Int) from rfl,hend];simp only[ag]
end
section
open Bool renaming and_eq_true → af, false_eq_true → aj, and_true → ax, not_true → aB, not_false → aG, false_or → aV
open List renaming length_append → ae, length_singleton → ai, length_cons → ak, length_map → ay, getElem_mem → aQ
open Nat renaming le_refl → ah
open Go.RowKit
variable {F:List Lf} (hF:OkF F)
include hF
theorem aoF {q':fQ} (a:Nat) (l:List Nd) (u d:Int) (hp:I5 F a l d 113) (hc:Ic F a d=false) (hb:Ib F a d=true):
  ∃(a':Nat) (m:List Nd),aiF F (a:Int) (cu l [opn 5 a u]) (bP l) d=some (PR F a' (cu l [opn 5 a u]++m) (bP l) d,())/\
   mO q' F (iV F) (a:Int) u d l=some (.inl ((),((),()),((F,iV F,(a':Int),u,d,()),l++(5,(a:Int),(a':Int),u,())::m,())))/\a<a'/\a'<=F.length/\m.length+4<=16*(a'-a):=by
 obtain⟨p1,p2,p3,p4⟩:=hp;have hFl:=hF.len;have hcl:(cu l [opn 5 a u]).length=l.length+1:=by unfold cu;simp
 have hcat:cu l [opn 5 a u]=l++[(5,(a:Int),0,u,())]:=rfl;have hgo:(Dn F a||Dl F a)=true:=by
  unfold Ib at hb;rw[hc,Bool.or_false]at hb;cases hr:Dn F a with
  |true=>rfl
  |false=>
   rw[hr,Bool.or_false]at hb;have hlt:=ig hb;have h1:=Ku hb;rw[aa8 hlt]at h1;rw[aV];unfold Dl;rw[dif_pos hlt];exact decide_eq_true (aAB (hF.txt _ (aQ hlt)) h1)
 obtain⟨a',m,f1,f2,f3,f4,f5,f6⟩:=EM hF (q':=q') (bP l) d u ⟨p3,by omega⟩ bU a (cu l [opn 5 a u]) false 0 (dO (by omega)) p1 (by rw[hcl];omega) (by omega) (by omega) ⟨fun h=>(by cases h),fun h=>absurd rfl h⟩;have hlt:=f6 hgo;refine⟨a',m, ?_, ?_,hlt,f4,by omega⟩
 ·rw[aiF,f1,bK];rfl
 ·rw[mO,wz,lL a l u d (by omega) (by omega) (by omega) p3 (by omega),bK];simp only[show jG 5=false from rfl,aj,if_false];rw[hcat]at f2;rw[show((l.length:Nat):Int)=bP l from rfl,f2,bK];simp only[dV];rw[show bP l=((l.length:Nat):Int) from rfl,uT a' _ u d l.length (by simp only[ae,ai];omega) (oM l _ 5 _ _) (by omega) (by omega) p3 (by omega),bK];simp only[oJ,show jG 5=false from rfl,aj,if_false]
theorem Xz {n:Nat} (h:All F n) (h1:All F (n-1)) (a:Nat) (l:List Nd) (u d:Int) (r r':Nat) (hm:16*(F.length-a)+9<n+1) (hr:n+1<=r) (hr':n+1<=r') (hp:I5 F a l d 113):
  ∃(a':Nat) (m:List Nd),(fD r).q324 F (a:Int) l u d=some (PR F a' (l++m) u d,())/\
   (fF r').q298 F (iV F) l (a:Int) u d=some (RR F a' (l++m) u d,())/\a<=a'/\a'<=F.length/\m.length<=16*(a'-a)+1/\(Ib F a d=true->a<a'/\m.length+3<=16*(a'-a)):=by
 have hp0:=hp;obtain⟨p1,p2,p3,p4⟩:=hp;have hFl:=hF.len;obtain⟨q,rfl⟩: ∃q,r=q+1:=⟨r-1,by omega⟩;obtain⟨q',rfl⟩: ∃q',r'=q'+1:=⟨r'-1,by omega⟩;show ∃(a':Nat) (m:List Nd),arY (fD q) F (a:Int) l u d=_/\arX (fF q') F (iV F) l (a:Int) u d=_/\_
 (rewrite [arY,arX];delta E9;rw[Dy hF a l u d (by omega),Vp a l u d (by omega),bK,bK])
 simp only;cases hc:Ic F a d with
 |true=>
  have hcd:Ib F a d=true:=by unfold Ib;rw[hc];simp
  obtain⟨a',m,e1,e2,e3,e4,e5⟩:=h.compound a l u d q q' (by omega) (by omega) (by omega) hp0 hc;refine⟨a',m, ?_, ?_,by omega,e4,by omega,fun _=>⟨e3,e5⟩⟩
  ·simp only[cond_true];rw[e1,bK]
  ·rw[hcd];simp only[aB,cond_false];rw[wO a l u d,bK,hc];simp only[cond_true];rw[e2,bK]
 |false=>
  simp only[cond_false];rw[afY hF a l u d p1,bK];simp only;cases hf:fnB F a d with
  |true=>
   have hcd:Ib F a d=true:=by
    unfold fnB at hf;simp only[af]at hf;unfold Ib;rw[hf.1];rfl
   obtain⟨a',m,e1,e2,e3,e4,e5⟩:=alB hF h h1 a l u d q q' hm (by omega) (by omega) hp0 hf;obtain⟨n1,_,_⟩:=lg l (opn 16 a u) (by omega);obtain⟨c1,c2⟩:=ql l m (opn 16 a u);refine⟨a',(16,(a:Int),(a':Int),u,())::m, ?_, ?_,by omega,e4,by simp only[ak];omega,fun _=>⟨e3,by simp only[ak];omega⟩⟩
   ·simp only[fG,ax,cond_true,n1];rw[dC (by omega) (by omega),e1,bK];simp only[c1,c2,cond_true,lN];rw[iJ (by omega) (by omega)];simp
   ·unfold fnB at hf;simp only[af,decide_eq_true_eq]at hf;obtain⟨g1,g2,g3,g4⟩:=hf;have hlt:=ig g1;have hlt2:=ig (TV (F:=F) (a:=a+1) (c:=40) (by decide) g2);rw[dif_pos hlt]at g4;rw[hcd];simp only[aB,cond_false];rw[wO a l u d,bK,hc];simp only[cond_false];rw[jo a l u d [120] (by simp),bK,g1];simp only[cond_true];rw[dC (by omega) (by omega),show(a:Int)+1=((a+1:Nat):Int) by omega,bZ (fH (by rw[bT,ay];omega)),bZ (eP (by omega) (by rw[ay];omega)),zF hlt2,
     show bW ((Dq F (a+1)).toNat:Int) 40=decide (Dq F (a+1)=40) from ahe (a+1) 40,decide_eq_true g2,cond_true,bZ (fH g3),bZ (eP (by omega) (by omega)),Am hlt,xg (by have:=hF.txt _ (aQ hlt);omega),bK,g4]
    simp only[cond_true];exact e2
  |false=>
   simp only[cond_false];rw[Q3 hF a l u d (by omega),bK];simp only;cases hcd:Ib F a d with
   |false=>
    simp only[aG,cond_true,cond_false];rw[ny a l u d (by omega),xu a l u d (by omega) p3 (by omega),bK,bK];exact⟨a,[(18,(a:Int),(a:Int),u,())],rfl,rfl,ah _,p1,by simp,fun h=>by cases h⟩
   |true=>
    obtain⟨a',m,e1,e2,e3,e4,e5⟩:=aoF hF (q':=fF q') a l u d hp0 hc hcd;obtain⟨n1,_,_⟩:=lg l (opn 5 a u) (by omega);obtain⟨c1,c2⟩:=ql l m (opn 5 a u);refine⟨a',(5,(a:Int),(a':Int),u,())::m, ?_, ?_,by omega,e4,by simp only[ak];omega,fun _=>⟨e3,by simp only[ak];omega⟩⟩
    ·simp only[fG,ax,cond_true,n1];rw[e1,bK];simp only[c1,c2,cond_true,lN]
    ·simp only[aB,cond_false];rw[wO a l u d,bK,hc];simp only[cond_false];rw[jo a l u d [120] (by simp),bK];simp only;have hsim:bM (mO (fF q') F (iV F) (a:Int) u d l) (fun y3=>dV y3 (fun a4=>
       some ((a4.2.2.1.1,(a4.2.2.1.2.1,(a4.2.2.2.1,(a4.2.2.1.2.2.1,(a4.2.2.1.2.2.2.1,(a4.2.2.1.2.2.2.2.1,())))))),())) (fun b4=>none))=some (RR F a' (l++(5,(a:Int),(a':Int),u,())::m) u d,()):=by
      rw[e2,bK];rfl
     cases hx:fP F a [120]with
     |false=>rw[cond_false];exact hsim
     |true=>
      have hlt:=ig hx;simp only[cond_true];rw[dC (by omega) (by omega),show(a:Int)+1=((a+1:Nat):Int) by omega];by_cases hl2:a+1<F.length
      ·rw[bZ (fH (by rw[bT,ay];omega)),bZ (eP (by omega) (by rw[ay];omega)),zF hl2,show bW ((Dq F (a+1)).toNat:Int) 40=decide (Dq F (a+1)=40) from ahe (a+1) 40];by_cases h40:Dq F (a+1)=40
       ·rw[decide_eq_true h40,cond_true];by_cases hd2:d<200
        ·rw[bZ (fH hd2),bZ (eP (by omega) (by omega)),Am hlt,xg (by have:=hF.txt _ (aQ hlt);omega),bK];have hnm:decide (nl F[a].2.1≠0/\nl F[a].2.1=F[a].2.1.length)=false:=by
          unfold fnB at hf;rw[hx,decide_eq_true h40,decide_eq_true hd2,dif_pos hlt]at hf;simpa using hf
         rw[hnm];simp only[cond_false];exact hsim
        ·rw[dE (iy hd2)];exact hsim
       ·rw[decide_eq_false h40,cond_false];exact hsim
      ·rw[dE (iy (by rw[bT,ay];omega))];exact hsim
end
section
open List renaming length_append → ae, append_assoc → ag, append_nil → aK
open Nat renaming le_refl → ah
open Go.RowKit
variable {F:List Lf} (hF:OkF F)
include hF
theorem IJ {q':fQ} (u d w:Int) (hd:0<=d/\d<=201) (P:Nat->Nat->List Nd->Option (Nat×List Nd)->Prop)
  (hno: ∀N a L,Dn F a=false->P (N+1) a L (some (a,L)))
  (hyes: ∀N a L a1 m1 x,Dn F a=true->a1<=F.length->Af F (a:Int) L u d=some (PR F a1 (L++m1) u d,(true,()))->P N a1 (L++m1) x->P (N+1) a L x):
  ∀(N a:Nat) (L:List Nd),F.length-a<N->a<=F.length->L.length<=16*a+1000->
  ∃(a':Nat) (m:List Nd),P N a L (some (a',L++m))/\jm q' N w F (iV F) (a:Int) u d L=some (.inl ((w,()),((),()),((F,iV F,(a':Int),u,d,()),L++m,())))/\a<=a'/\a'<=F.length/\m.length<=2*(a'-a)
 |0,a,L,hN,_,_=>by omega
 |N+1,a,L,hN,ha,hL=>by
  have hFl:=hF.len;rw[jm,Lc,yQ a L u d (by omega),bK];simp only;cases hr:Dn F a with
  |false=>exact⟨a,[],by rw[aK];exact hno N a L hr,by simp,ah _,ha,by simp⟩
  |true=>
   obtain⟨a1,m1,e1,e2,e3,e4,e5⟩:=OG hF a L u d ha (by omega) hd.1 (by omega) hr;simp only[cond_true];rw[e2,bK];simp only;obtain⟨a',m,f1,f2,f3,f4,f5⟩:=IJ u d w hd P hno hyes N a1 (L++m1) (by omega) e4 (by rw[ae];omega);exact⟨a',m1++m,by rw[<-ag];exact hyes N a L a1 m1 _ hr e4 e1 f1,by rw[f2,ag],by omega,f4,by rw[ae];omega⟩
theorem aKp {q:eY} {q':fQ} (u d w v0 v1 v2 v3 v4 v5:Int) (hd:0<=d/\d<=201) (a:Nat) (L:List Nd) (ha:a<=F.length) (hL:L.length<=16*a+1000):
  ∃(a':Nat) (m:List Nd),oq q bU v0 v1 v2 v3 v4 v5 L F (a:Int) u d=some (.inl ((),((v0,v1,()),(v2,v3,()),(v4,v5,()),(),()),((),(),L++m,(F,(a':Int),u,d,()),())))/\
   jm q' bU w F (iV F) (a:Int) u d L=some (.inl ((w,()),((),()),((F,iV F,(a':Int),u,d,()),L++m,())))/\a<=a'/\a'<=F.length/\m.length<=2*(a'-a):=by
 have hFl:=hF.len;obtain⟨a',m,f1,f2,f3,f4,f5⟩:=IJ hF (q':=q') u d w hd (fun N a L x=>a<=F.length-> ∀y,x=some y->oq q N v0 v1 v2 v3 v4 v5 L F (a:Int) u d=some (.inl ((),((v0,v1,()),(v2,v3,()),(v4,v5,()),(),()),((),(),y.2,(F,(y.1:Int),u,d,()),()))))
  (fun N a L hr ha y hy=>by
   cases hy;rw[oq,uJ,oC hF a L u d ha hr,bK];rfl)
  (fun N a L a1 m1 x hr h1 e1 ih ha y hy=>by
   rw[oq,uJ,e1,bK];simp only[cond_true];exact ih h1 y hy) bU a L (dO (by omega)) ha hL
 exact⟨a',m,f1 ha _ rfl,f2,f3,f4,f5⟩
theorem aEX {q:eY} {q':fQ} (u d w v0 v1 v2 v3 v4 v5:Int) (hd:0<=d/\d<=201) (a:Nat) (L:List Nd) (ha:a<=F.length) (hL:L.length<=16*a+1000):
  ∃(a':Nat) (m:List Nd),lq q bU v0 v1 v2 v3 v4 v5 L F (a:Int) u d=some (.inl ((),((v0,v1,()),(v2,v3,()),(v4,v5,()),(),()),((),(),L++m,(F,(a':Int),u,d,()),())))/\
   jm q' bU w F (iV F) (a:Int) u d L=some (.inl ((w,()),((),()),((F,iV F,(a':Int),u,d,()),L++m,())))/\a<=a'/\a'<=F.length/\m.length<=2*(a'-a):=by
 have hFl:=hF.len;obtain⟨a',m,f1,f2,f3,f4,f5⟩:=IJ hF (q':=q') u d w hd (fun N a L x=>a<=F.length-> ∀y,x=some y->lq q N v0 v1 v2 v3 v4 v5 L F (a:Int) u d=some (.inl ((),((v0,v1,()),(v2,v3,()),(v4,v5,()),(),()),((),(),y.2,(F,(y.1:Int),u,d,()),()))))
  (fun N a L hr ha y hy=>by
   cases hy;rw[lq,pO,oC hF a L u d ha hr,bK];rfl)
  (fun N a L a1 m1 x hr h1 e1 ih ha y hy=>by
   rw[lq,pO,e1,bK];simp only[cond_true];exact ih h1 y hy) bU a L (dO (by omega)) ha hL
 exact⟨a',m,f1 ha _ rfl,f2,f3,f4,f5⟩
theorem aEY {q:eY} {q':fQ} (u d w v0 v1 v2 v3 v4 v5:Int) (hd:0<=d/\d<=201) (a:Nat) (L:List Nd) (ha:a<=F.length) (hL:L.length<=16*a+1000):
  ∃(a':Nat) (m:List Nd),lu q bU v0 v1 v2 v3 v4 v5 L F (a:Int) u d=some (.inl ((),((v0,v1,()),(v2,v3,()),(v4,v5,()),(),()),((),(),L++m,(F,(a':Int),u,d,()),())))/\
   jm q' bU w F (iV F) (a:Int) u d L=some (.inl ((w,()),((),()),((F,iV F,(a':Int),u,d,()),L++m,())))/\a<=a'/\a'<=F.length/\m.length<=2*(a'-a):=by
 have hFl:=hF.len;obtain⟨a',m,f1,f2,f3,f4,f5⟩:=IJ hF (q':=q') u d w hd (fun N a L x=>a<=F.length-> ∀y,x=some y->lu q N v0 v1 v2 v3 v4 v5 L F (a:Int) u d=some (.inl ((),((v0,v1,()),(v2,v3,()),(v4,v5,()),(),()),((),(),y.2,(F,(y.1:Int),u,d,()),()))))
  (fun N a L hr ha y hy=>by
   cases hy;rw[lu,pR,oC hF a L u d ha hr,bK];rfl)
  (fun N a L a1 m1 x hr h1 e1 ih ha y hy=>by
   rw[lu,pR,e1,bK];simp only[cond_true];exact ih h1 y hy) bU a L (dO (by omega)) ha hL
 exact⟨a',m,f1 ha _ rfl,f2,f3,f4,f5⟩
theorem aEZ {q:eY} {q':fQ} (u d w v0 v1 v2 v3 v4 v5:Int) (hd:0<=d/\d<=201) (a:Nat) (L:List Nd) (ha:a<=F.length) (hL:L.length<=16*a+1000):
  ∃(a':Nat) (m:List Nd),lw q bU v0 v1 v2 v3 v4 v5 L F (a:Int) u d=some (.inl ((),((v0,v1,()),(v2,v3,()),(v4,v5,()),(),()),((),(),L++m,(F,(a':Int),u,d,()),())))/\
   jm q' bU w F (iV F) (a:Int) u d L=some (.inl ((w,()),((),()),((F,iV F,(a':Int),u,d,()),L++m,())))/\a<=a'/\a'<=F.length/\m.length<=2*(a'-a):=by
 have hFl:=hF.len;obtain⟨a',m,f1,f2,f3,f4,f5⟩:=IJ hF (q':=q') u d w hd (fun N a L x=>a<=F.length-> ∀y,x=some y->lw q N v0 v1 v2 v3 v4 v5 L F (a:Int) u d=some (.inl ((),((v0,v1,()),(v2,v3,()),(v4,v5,()),(),()),((),(),y.2,(F,(y.1:Int),u,d,()),()))))
  (fun N a L hr ha y hy=>by
   cases hy;rw[lw,pU,oC hF a L u d ha hr,bK];rfl)
  (fun N a L a1 m1 x hr h1 e1 ih ha y hy=>by
   rw[lw,pU,e1,bK];simp only[cond_true];exact ih h1 y hy) bU a L (dO (by omega)) ha hL
 exact⟨a',m,f1 ha _ rfl,f2,f3,f4,f5⟩
theorem aE0 {q:eY} {q':fQ} (u d w v0 v1 v2 v3 v4 v5:Int) (hd:0<=d/\d<=201) (a:Nat) (L:List Nd) (ha:a<=F.length) (hL:L.length<=16*a+1000):
  ∃(a':Nat) (m:List Nd),lC q bU v0 v1 v2 v3 v4 v5 L F (a:Int) u d=some (.inl ((),((v0,v1,()),(v2,v3,()),(v4,v5,()),(),()),((),(),L++m,(F,(a':Int),u,d,()),())))/\
   jm q' bU w F (iV F) (a:Int) u d L=some (.inl ((w,()),((),()),((F,iV F,(a':Int),u,d,()),L++m,())))/\a<=a'/\a'<=F.length/\m.length<=2*(a'-a):=by
 have hFl:=hF.len;obtain⟨a',m,f1,f2,f3,f4,f5⟩:=IJ hF (q':=q') u d w hd (fun N a L x=>a<=F.length-> ∀y,x=some y->lC q N v0 v1 v2 v3 v4 v5 L F (a:Int) u d=some (.inl ((),((v0,v1,()),(v2,v3,()),(v4,v5,()),(),()),((),(),y.2,(F,(y.1:Int),u,d,()),()))))
  (fun N a L hr ha y hy=>by
   cases hy;rw[lC,pV,oC hF a L u d ha hr,bK];rfl)
  (fun N a L a1 m1 x hr h1 e1 ih ha y hy=>by
   rw[lC,pV,e1,bK];simp only[cond_true];exact ih h1 y hy) bU a L (dO (by omega)) ha hL
 exact⟨a',m,f1 ha _ rfl,f2,f3,f4,f5⟩
theorem aE1 {q:eY} {q':fQ} (u d w v0 v1 v2 v3 v4 v5:Int) (hd:0<=d/\d<=201) (a:Nat) (L:List Nd) (ha:a<=F.length) (hL:L.length<=16*a+1000):
  ∃(a':Nat) (m:List Nd),lD q bU v0 v1 v2 v3 v4 v5 L F (a:Int) u d=some (.inl ((),((v0,v1,()),(v2,v3,()),(v4,v5,()),(),()),((),(),L++m,(F,(a':Int),u,d,()),())))/\
   jm q' bU w F (iV F) (a:Int) u d L=some (.inl ((w,()),((),()),((F,iV F,(a':Int),u,d,()),L++m,())))/\a<=a'/\a'<=F.length/\m.length<=2*(a'-a):=by
 have hFl:=hF.len;obtain⟨a',m,f1,f2,f3,f4,f5⟩:=IJ hF (q':=q') u d w hd (fun N a L x=>a<=F.length-> ∀y,x=some y->lD q N v0 v1 v2 v3 v4 v5 L F (a:Int) u d=some (.inl ((),((v0,v1,()),(v2,v3,()),(v4,v5,()),(),()),((),(),y.2,(F,(y.1:Int),u,d,()),()))))
  (fun N a L hr ha y hy=>by
   cases hy;rw[lD,pW,oC hF a L u d ha hr,bK];rfl)
  (fun N a L a1 m1 x hr h1 e1 ih ha y hy=>by
   rw[lD,pW,e1,bK];simp only[cond_true];exact ih h1 y hy) bU a L (dO (by omega)) ha hL
 exact⟨a',m,f1 ha _ rfl,f2,f3,f4,f5⟩
end
section
open List renaming length_append → ae, append_assoc → ag
open Go.RowKit
variable {F:List Lf} (hF:OkF F)
include hF
theorem EZ {k:Nat} (h:All F k) (a:Nat) (l:List Nd) (u d:Int) (r r':Nat) (hm:16*(F.length-a)+13<k) (hr:k+1<=r) (hr':k+1<=r') (hp:I5 F a l d 105):
  ∃(a':Nat) (m:List Nd),(fD r).q373 F (a:Int) l u d=some (PR F a' (l++m) u d,())/\
   (fF r').q352 F (iV F) l (a:Int) u d=some (RR F a' (l++m) u d,())/\a<=a'/\a'<=F.length/\m.length<=16*(a'-a)+3:=by
 obtain⟨p1,p2,p3,p4⟩:=hp;have hFl:=hF.len;obtain⟨q,rfl⟩: ∃q,r=q+1:=⟨r-1,by omega⟩;obtain⟨q',rfl⟩: ∃q',r'=q'+1:=⟨r'-1,by omega⟩;obtain⟨w1,w2⟩:=Hy (F:=F) a [100];have w3:=w2 p1;have w4:=uh (F:=F) a [100] u;obtain⟨a1,m1,e1,e2,e3,e4,e5⟩:=h.body (qK F a [100]) (l++xG F a [100] u) u d q q' (by omega) (by omega) (by omega) ⟨w3,by rw[ae];omega,p3,p4⟩;obtain⟨x1,x2⟩:=Hy (F:=F) a1 [103];have x3:=x2 e4;have x4:=uh (F:=F) a1 [103] u;refine⟨qK F a1 [103],xG F a [100] u++m1++xG F a1 [103] u, ?_, ?_,by omega,x3,by simp only[ae];omega⟩
 ·show asc (fD q) F (a:Int) l u d=_;rw[asc,zJ hF a l u d (by omega) (by omega) [100] rfl,bK];simp only[l9];rw[e1,bK];simp only;rw[zJ hF a1 _ u d (by omega) (by simp only[ae];omega) [103] rfl,bK];simp only[l9,ag]
 ·show ar1 (fF q') F (iV F) l (a:Int) u d=_;rw[ar1,zK a l u d (by omega) (by omega) p3 (by omega) [100] (by simp),bK];simp only[l9];rw[e2,bK];simp only;rw[zK a1 _ u d (by omega) (by simp only[ae];omega) p3 (by omega) [103] (by simp),bK];simp only[l9,ag]
theorem aba {k:Nat} (h:All F k) (a:Nat) (l:List Nd) (u d:Int) (q q':Nat) (o:di) (h0:o.contains 0=false) (ho:o.length<1000000) (hm:16*(F.length-a)+13<k) (hr:k<=q) (hr':k<=q') (hp:I5 F a l d 105):
  ∃(a':Nat) (m:List Nd),(bM ((fD q).q372 F (a:Int) l u d) fun y0=>bM (rJ y0.1.1 y0.1.2.1 y0.1.2.2.1 y0.1.2.2.2.1 y0.1.2.2.2.2.1 o) fun y1=>
    some ((y1.1.1,(y1.1.2.1,(y1.1.2.2.1,(y1.1.2.2.2.1,(y1.1.2.2.2.2.1,()))))),()))=some (PR F a' (l++m) u d,())/\
   (∀{β:Type} (K:(List Lf×List UInt8×List Nd×Int×Int×Int×Unit)×Unit->Option β),(bM ((fF q').q351 F (iV F) l (a:Int) u d) fun y3=>bM (mY y3.1.1 y3.1.2.1 y3.1.2.2.1 y3.1.2.2.2.1 y3.1.2.2.2.2.1 y3.1.2.2.2.2.2.1 o) K)=K (RR F a' (l++m) u d,()))/\a<=a'/\a'<=F.length/\m.length<=16*(a'-a)+2:=by
 obtain⟨p1,p2,p3,p4⟩:=hp;have hFl:=hF.len;obtain⟨a1,m1,e1,e2,e3,e4,e5⟩:=h.body a l u d q q' (by omega) (by omega) (by omega) ⟨p1,by omega,p3,p4⟩;obtain⟨x1,x2⟩:=Hy (F:=F) a1 o;have x3:=x2 e4;have x4:=uh (F:=F) a1 o u;refine⟨qK F a1 o,m1++xG F a1 o u, ?_,fun K=> ?_,by omega,x3,by simp only[ae];omega⟩
 ·rw[e1,bK];simp only;rw[zJ hF a1 _ u d (by omega) (by simp only[ae];omega) o h0,bK];simp only[l9,ag]
 ·rw[e2,bK];simp only;rw[zK a1 _ u d (by omega) (by simp only[ae];omega) p3 (by omega) o ho,bK];simp only[l9,ag]
end
section
open List renaming length_append → ae, append_assoc → ag
open Nat renaming le_refl → ah
open Go.RowKit
variable {F:List Lf} (hF:OkF F)
include hF
theorem VA {k:Nat} (h:All F k) {q q':Nat} (hq:k<=q) (hq':k<=q') (u d v:Int) (hd:0<=d/\d<=200): ∀(N a:Nat) (L:List Nd),F.length-a<N->a<=F.length->16*(F.length-a)+2<k->L.length<=16*a+110->
  ∃(a':Nat) (m:List Nd),JZ (fD q) N F (a:Int) u d L=some (.inl ((),((),()),((F,(a':Int),u,d,()),L++m,())))/\
   Ar (fF q') N v F (iV F) (a:Int) u d L=some (.inl ((v,()),((),()),((F,iV F,(a':Int),u,d,()),L++m,())))/\a<=a'/\a'<=F.length/\m.length<=16*(a'-a)
 |0,a,L,hN,_,_,_=>by omega
 |N+1,a,L,hN,ha,hn,hL=>by
  have hFl:=hF.len;rw[JZ,Qn,Ar,La,mW hF a L u d (by omega) [101] rfl,jo a L u d [101] (by simp),bK,bK];simp only;cases hb:fP F a [101]with
  |false=>
   rw[uX hb];exact⟨a,[],by simp,by simp,ah _,ha,by simp⟩
  |true=>
   have hlt:=ig hb;rw[mX hb];simp only[cond_true];rw[dC (by omega) (by omega),show(a:Int)+1=((a+1:Nat):Int) by omega];obtain⟨a1,m1,e1,e2,e3,e4,e5⟩:=h.body (a+1) L u d q q' (by omega) hq hq' ⟨by omega,by omega,hd.1,hd.2⟩;obtain⟨w1,w2⟩:=Hy (F:=F) a1 [116];have w3:=w2 e4;have w4:=uh (F:=F) a1 [116] u;obtain⟨a2,m2,f1,f2,f3,f4,f5⟩:=h.body (qK F a1 [116]) (L++m1++xG F a1 [116] u) u d q q' (by omega) hq hq' ⟨w3,by simp only[ae];omega,hd.1,hd.2⟩;obtain⟨a',m,g1,g2,g3,g4,g5⟩:=VA h hq hq' u d v hd N a2 (L++m1++xG F a1 [116] u++m2) (by omega) f4 (by omega) (by simp only[ae];omega);refine⟨a',m1++xG F a1 [116] u++m2++m, ?_, ?_,by omega,g4,by simp only[ae];omega⟩
   ·rw[e1,bK];simp only;rw[zJ hF a1 _ u d (by omega) (by simp only[ae];omega) [116] rfl,bK];simp only[l9];rw[f1,bK];simp only;rw[g1];simp only[ag]
   ·rw[e2,bK];simp only;rw[zK a1 _ u d (by omega) (by simp only[ae];omega) hd.1 (by omega) [116] (by simp),bK];simp only[l9];rw[f2,bK];simp only;rw[g2];simp only[ag]
theorem aF1 {k:Nat} (h:All F k) (a:Nat) (l:List Nd) (u d v:Int) (r q':Nat) (hm:16*(F.length-a)+13<k) (hr:k+1<=r) (hr':k<=q') (hp:I5 F a l d 105):
  ∃(a':Nat) (m:List Nd),(fD r).q361 F (a:Int) l u d=some (PR F a' (l++m) u d,())/\
   (∀{β:Type} (K:Int->(List Lf×List UInt8×List Nd×Int×Int×Int×Unit)×Unit->Option β),
    (bM ((fF q').q351 F (iV F) l (a:Int) u d) fun y3=>
       bM (mY y3.1.1 y3.1.2.1 y3.1.2.2.1 y3.1.2.2.2.1 y3.1.2.2.2.2.1 y3.1.2.2.2.2.2.1 [116]) fun y4=>
        bM ((fF q').q351 y4.1.1 y4.1.2.1 y4.1.2.2.1 y4.1.2.2.2.1 y4.1.2.2.2.2.1 y4.1.2.2.2.2.2.1) fun y5=>
         bM (Ar (fF q') bU v y5.1.1 y5.1.2.1 y5.1.2.2.2.1 y5.1.2.2.2.2.1 y5.1.2.2.2.2.2.1 y5.1.2.2.1) fun y6=>
          dV y6 (fun a7=>
           bM (jF a7.2.2.1.1 a7.2.2.1.2.1 a7.2.2.2.1 a7.2.2.1.2.2.1 a7.2.2.1.2.2.2.1 a7.2.2.1.2.2.2.2.1 [108]) fun y8=>
            bif y8.2.1 then
             bM ((fF q').q351 y8.1.1 y8.1.2.1 y8.1.2.2.1 (dA .i64 y8.1.2.2.2.1 1) y8.1.2.2.2.2.1 y8.1.2.2.2.2.2.1) fun y9=>
              bM (mY y9.1.1 y9.1.2.1 y9.1.2.2.1 y9.1.2.2.2.1 y9.1.2.2.2.2.1 y9.1.2.2.2.2.2.1 [102]) (K a7.1.1)
            else
            bM (mY y8.1.1 y8.1.2.1 y8.1.2.2.1 y8.1.2.2.2.1 y8.1.2.2.2.2.1 y8.1.2.2.2.2.2.1 [102]) (K a7.1.1)) (fun b7=>none))=K v (RR F a' (l++m) u d,()))/\a<=a'/\a'<=F.length/\m.length<=16*(a'-a)+5:=by
 obtain⟨p1,p2,p3,p4⟩:=hp;have hFl:=hF.len;obtain⟨q,rfl⟩: ∃q,r=q+1:=⟨r-1,by omega⟩;obtain⟨a1,m1,e1,e2,e3,e4,e5⟩:=h.body a l u d q q' (by omega) (by omega) hr' ⟨p1,by omega,p3,p4⟩;obtain⟨w1,w2⟩:=Hy (F:=F) a1 [116];have w3:=w2 e4;have w4:=uh (F:=F) a1 [116] u;obtain⟨a2,m2,f1,f2,f3,f4,f5⟩:=h.body (qK F a1 [116]) (l++m1++xG F a1 [116] u) u d q q' (by omega) (by omega) hr' ⟨w3,by simp only[ae];omega,p3,p4⟩;obtain⟨a3,m3,g1,g2,g3,g4,g5⟩:=VA hF h (q:=q) (q':=q') (by omega) hr' u d v ⟨p3,p4⟩ bU a2 (l++m1++xG F a1 [116] u++m2) (dO (by omega)) f4 (by omega) (by simp only[ae];omega);have hlast: ∃(a':Nat) (m:List Nd),(bM (lI F (a3:Int) (l++m1++xG F a1 [116] u++m2++m3) u d [108]) fun y5=>
       bif y5.2.1 then
        bM ((fD q).q372 y5.1.1 y5.1.2.1 y5.1.2.2.1 y5.1.2.2.2.1 y5.1.2.2.2.2.1) fun y6=>
         bM (rJ y6.1.1 y6.1.2.1 y6.1.2.2.1 y6.1.2.2.2.1 y6.1.2.2.2.2.1 [102]) fun y7=>
          some ((y7.1.1,(y7.1.2.1,(y7.1.2.2.1,(y7.1.2.2.2.1,(y7.1.2.2.2.2.1,()))))),())
       else
       bM (rJ y5.1.1 y5.1.2.1 y5.1.2.2.1 y5.1.2.2.2.1 y5.1.2.2.2.2.1 [102]) fun y6=>
        some ((y6.1.1,(y6.1.2.1,(y6.1.2.2.1,(y6.1.2.2.2.1,(y6.1.2.2.2.2.1,()))))),()))=some (PR F a' (l++m1++xG F a1 [116] u++m2++m3++m) u d,())/\
   (∀{β:Type} (K:(List Lf×List UInt8×List Nd×Int×Int×Int×Unit)×Unit->Option β),(bM (jF F (iV F) (l++m1++xG F a1 [116] u++m2++m3) (a3:Int) u d [108]) fun y8=>
            bif y8.2.1 then
             bM ((fF q').q351 y8.1.1 y8.1.2.1 y8.1.2.2.1 (dA .i64 y8.1.2.2.2.1 1) y8.1.2.2.2.2.1 y8.1.2.2.2.2.2.1) fun y9=>
              bM (mY y9.1.1 y9.1.2.1 y9.1.2.2.1 y9.1.2.2.2.1 y9.1.2.2.2.2.1 y9.1.2.2.2.2.2.1 [102]) K
            else
            bM (mY y8.1.1 y8.1.2.1 y8.1.2.2.1 y8.1.2.2.2.1 y8.1.2.2.2.2.1 y8.1.2.2.2.2.2.1 [102]) K)=K (RR F a' (l++m1++xG F a1 [116] u++m2++m3++m) u d,()))/\a3<=a'/\a'<=F.length/\m.length<=16*(a'-a3)+2:=by
  have hL:(l++m1++xG F a1 [116] u++m2++m3).length<=16*a3+108:=by simp only[ae];omega
  generalize l++m1++xG F a1 [116] u++m2++m3=L at hL;rw[mW hF a3 L u d (by omega) [108] rfl,bK];cases hb:fP F a3 [108]with
  |true=>
   have hlt:=ig hb;obtain⟨b1,n1,s1,s2,s3,s4,s5⟩:=aba hF h (a3+1) L u d q q' [102] rfl (by simp) (by omega) (by omega) hr' ⟨by omega,by omega,p3,p4⟩;refine⟨b1,n1, ?_,fun K=> ?_,by omega,s4,by omega⟩
   ·rw[mX hb];simp only[cond_true];exact s1
   ·rw[jo a3 L u d [108] (by simp),bK,hb];simp only[cond_true];rw[dC (by omega) (by omega),show(a3:Int)+1=((a3+1:Nat):Int) by omega];exact s2 K
  |false=>
   obtain⟨x1,x2⟩:=Hy (F:=F) a3 [102];have x3:=x2 g4;have x4:=uh (F:=F) a3 [102] u;refine⟨qK F a3 [102],xG F a3 [102] u, ?_,fun K=> ?_,x1,x3,by omega⟩
   ·rw[uX hb];simp only[cond_false];rw[zJ hF a3 L u d (by omega) (by omega) [102] rfl,bK];simp only[l9]
   ·rw[jo a3 L u d [108] (by simp),bK,hb];simp only[cond_false];rw[zK a3 L u d (by omega) (by omega) p3 (by omega) [102] (by simp),bK];simp only[l9]
 obtain⟨a',m,s1,s2,s3,s4,s5⟩:=hlast;refine⟨a',m1++xG F a1 [116] u++m2++m3++m, ?_,fun K=> ?_,by omega,s4,by simp only[ae];omega⟩
 ·show ar7 (fD q) F (a:Int) l u d=_;rw[ar7,e1,bK];simp only;rw[zJ hF a1 _ u d (by omega) (by simp only[ae];omega) [116] rfl,bK];simp only[l9];rw[f1,bK];simp only;rw[g1,bK];simp only[dV];rw[s1];simp only[ag]
 ·rw[e2,bK];simp only;rw[zK a1 _ u d (by omega) (by simp only[ae];omega) p3 (by omega) [116] (by simp),bK];simp only[l9];rw[f2,bK];simp only;rw[g2,bK];simp only[dV];rw[s2 (K v)];simp only[ag]
theorem awD {k:Nat} (h:All F k) (a:Nat) (l:List Nd) (u d:Int) (r q':Nat) (hm:16*(F.length-a)+13<k) (hr:k+2<=r) (hr':k+1<=q') (hp:I5 F a l d 104):
  ∃(a':Nat) (m:List Nd),(fD r).q362 F (a:Int) l u d=some (PR F a' (l++m) u d,())/\
   (∀{β:Type} (K:(List Lf×List UInt8×List Nd×Int×Int×Int×Unit)×Unit->Option β),
    (bM ((fF q').q351 F (iV F) l (a:Int) u d) fun y3=>
       bM ((fF q').q352 y3.1.1 y3.1.2.1 y3.1.2.2.1 y3.1.2.2.2.1 y3.1.2.2.2.2.1 y3.1.2.2.2.2.2.1) K)=K (RR F a' (l++m) u d,()))/\a<=a'/\a'<=F.length/\m.length<=16*(a'-a)+4:=by
 obtain⟨p1,p2,p3,p4⟩:=hp;have hFl:=hF.len;obtain⟨q,rfl⟩: ∃q,r=q+1:=⟨r-1,by omega⟩;obtain⟨a1,m1,e1,e2,e3,e4,e5⟩:=h.body a l u d q q' (by omega) (by omega) (by omega) ⟨p1,by omega,p3,p4⟩;obtain⟨a',m,f1,f2,f3,f4,f5⟩:=EZ hF h a1 (l++m1) u d q q' (by omega) (by omega) (by omega) ⟨e4,by simp only[ae];omega,p3,p4⟩;refine⟨a',m1++m, ?_,fun K=> ?_,by omega,f4,by simp only[ae];omega⟩
 ·show ar8 (fD q) F (a:Int) l u d=_;rw[ar8,e1,bK];simp only;rw[f1,bK];simp only[ag]
 ·rw[e2,bK];simp only;rw[f2,bK];simp only[ag]
end
section
open Bool renaming not_true → aB, not_false → aG
open List renaming length_append → ae, append_assoc → ag, length_singleton → ai, getElem_mem → aQ
open Nat renaming le_refl → ah
open Go.RowKit
variable {F:List Lf} (hF:OkF F)
include hF
omit hF in
theorem aDw {a:Nat} (h:fP F a [110]=true):bW (((ln F a:Nat):Int)-(a:Int)) 0=false:=by
 have:a+1<=ln F a:=by
  unfold ln;rw[lnF,if_pos h];exact agl _ _
 exact dW (by omega)
omit hF in
theorem aF9 {a:Nat} (h:fP F a [110]=false):bW (((ln F a:Nat):Int)-(a:Int)) 0=true:=by
 have:ln F a=a:=by
  unfold ln;rw[lnF,if_neg (by rw[h];simp)]
 exact fV (by omega)
theorem UF {q:eY} {q':fQ} (u d:Int) (hd:0<=d/\d<=200): ∀(N a:Nat) (L:List Nd),F.length-a<N->a<=F.length->L.length<=16*a+200->
  ∃(a':Nat) (m:List Nd),FY q N F (a:Int) u d L=some (.inl ((),((),()),((F,(a':Int),u,d,()),L++m,())))/\
   FX q' N F (iV F) (a:Int) u d L=some (.inl ((),((),()),((F,iV F,(a':Int),u,d,()),L++m,())))/\a<=a'/\a'<=F.length/\m.length<=a'-a
 |0,a,L,hN,_,_=>by omega
 |N+1,a,L,hN,ha,hL=>by
  have hFl:=hF.len;rw[FY,Qo,FX,Qm,Aj a L u d,bK];simp only;by_cases hlt:a<F.length
  ·rw[bZ (b:=iG (a:Int) (bP F)) (fH (by rw[bT];omega)),bZ (b:=gV F (a:Int)) (eP (by omega) (by omega)),Am hlt];by_cases h6:F[a].1=6
   ·have hw:Dl F a=true:=by unfold Dl;rw[dif_pos hlt,decide_eq_true h6]
    rw[bZ (b:=bW F[a].1 6) (fV h6),hw];simp only[cond_true];rw[Iq a L u d 7 (by omega) (by omega),Ox a L u d (by omega) (by omega) rfl (by omega) (by omega) hd.1 (by omega),bK,bK];simp only;obtain⟨a',m,g1,g2,g3,g4,g5⟩:=UF u d hd N (a+1) (L++[(7,(a:Int),((a+1:Nat):Int),u,())]) (by omega) (by omega) (by rw[ae,ai];omega);exact⟨a',[(7,(a:Int),((a+1:Nat):Int),u,())]++m,by rw[g1,ag],by rw[g2,ag],by omega,g4,by rw[ae,ai];omega⟩
   ·have hw:Dl F a=false:=by unfold Dl;rw[dif_pos hlt,decide_eq_false h6]
    rw[dE (b:=bW F[a].1 6) (dW h6),hw];exact⟨a,[],by simp,by simp,ah _,ha,by simp⟩
  ·have hw:Dl F a=false:=by unfold Dl;rw[dif_neg hlt]
   rw[dE (b:=iG (a:Int) (bP F)) (iy (by rw[bT];omega)),hw];exact⟨a,[],by simp,by simp,ah _,ha,by simp⟩
theorem acU {k:Nat} (h:All F k) (a:Nat) (l:List Nd) (u d:Int) (q q':Nat) (hm:16*(F.length-a)+13<k) (hr:k+1<=q) (hr':k+1<=q') (hp:I5 F a l d 102):
  ∃(a':Nat) (m:List Nd),(bM (lI F (a:Int) l u d [59]) fun y2=>
    bif y2.2.1 then
     bM (pJ y2.1.1 y2.1.2.1 y2.1.2.2.1 y2.1.2.2.2.1 y2.1.2.2.2.2.1) fun y3=>
      bM ((fD q).q373 y3.1.1 y3.1.2.1 y3.1.2.2.1 y3.1.2.2.2.1 y3.1.2.2.2.2.1) fun y4=>
       some ((y4.1.1,(y4.1.2.1,(y4.1.2.2.1,(y4.1.2.2.2.1,(y4.1.2.2.2.2.1,()))))),())
    else
    bM (pJ y2.1.1 y2.1.2.1 y2.1.2.2.1 y2.1.2.2.2.1 y2.1.2.2.2.2.1) fun y3=>
     bM (lI y3.1.1 y3.1.2.1 y3.1.2.2.1 y3.1.2.2.2.1 y3.1.2.2.2.2.1 [107]) fun y4=>
      bif y4.2.1 then
       bM (FY (fD q) bU y4.1.1 y4.1.2.1 y4.1.2.2.2.1 y4.1.2.2.2.2.1 y4.1.2.2.1) fun y5=>
        dV y5 (fun a6=>
         bM (lI a6.2.2.1.1 a6.2.2.1.2.1 a6.2.2.2.1 a6.2.2.1.2.2.1 a6.2.2.1.2.2.2.1 [59]) fun y7=>
          bM (pJ y7.1.1 y7.1.2.1 y7.1.2.2.1 y7.1.2.2.2.1 y7.1.2.2.2.2.1) fun y8=>
           bif(!y8.2.1)then
            bif(!y7.2.1)then
             bM (xY y8.1.1 y8.1.2.1 y8.1.2.2.1 y8.1.2.2.2.1 y8.1.2.2.2.2.1) fun y9=>
              bM ((fD q).q373 y9.1.1 y9.1.2.1 y9.1.2.2.1 y9.1.2.2.2.1 y9.1.2.2.2.2.1) fun y10=>
               some ((y10.1.1,(y10.1.2.1,(y10.1.2.2.1,(y10.1.2.2.2.1,(y10.1.2.2.2.2.1,()))))),())
            else
            bM ((fD q).q373 y8.1.1 y8.1.2.1 y8.1.2.2.1 y8.1.2.2.2.1 y8.1.2.2.2.2.1) fun y9=>
             some ((y9.1.1,(y9.1.2.1,(y9.1.2.2.1,(y9.1.2.2.2.1,(y9.1.2.2.2.2.1,()))))),())
           else
           bM ((fD q).q373 y8.1.1 y8.1.2.1 y8.1.2.2.1 y8.1.2.2.2.1 y8.1.2.2.2.2.1) fun y9=>
            some ((y9.1.1,(y9.1.2.1,(y9.1.2.2.1,(y9.1.2.2.2.1,(y9.1.2.2.2.2.1,()))))),())) (fun b6=>
         none)
      else
      bM ((fD q).q373 y4.1.1 y4.1.2.1 y4.1.2.2.1 y4.1.2.2.2.1 y4.1.2.2.2.2.1) fun y5=>
       some ((y5.1.1,(y5.1.2.1,(y5.1.2.2.1,(y5.1.2.2.2.1,(y5.1.2.2.2.2.1,()))))),()))=some (PR F a' (l++m) u d,())/\
   (bM (jF F (iV F) l (a:Int) u d [59]) fun y1=>
   bif y1.2.1 then
    bM (lU y1.1.1 y1.1.2.1 y1.1.2.2.1 (dA .i64 y1.1.2.2.2.1 1) y1.1.2.2.2.2.1 y1.1.2.2.2.2.2.1) fun y2=>
     bM ((fF q').q352 y2.1.1 y2.1.2.1 y2.1.2.2.1 y2.1.2.2.2.1 y2.1.2.2.2.2.1 y2.1.2.2.2.2.2.1) fun y3=>
      some ((y3.1.1,(y3.1.2.1,(y3.1.2.2.1,(y3.1.2.2.2.1,(y3.1.2.2.2.2.1,(y3.1.2.2.2.2.2.1,())))))),())
   else
   bM (lU y1.1.1 y1.1.2.1 y1.1.2.2.1 y1.1.2.2.2.1 y1.1.2.2.2.2.1 y1.1.2.2.2.2.2.1) fun y2=>
    bM (jF y2.1.1 y2.1.2.1 y2.1.2.2.1 y2.1.2.2.2.1 y2.1.2.2.2.2.1 y2.1.2.2.2.2.2.1 [107]) fun y3=>
     bif y3.2.1 then
      bM (FX (fF q') bU y3.1.1 y3.1.2.1 (dA .i64 y3.1.2.2.2.1 1) y3.1.2.2.2.2.1 y3.1.2.2.2.2.2.1 y3.1.2.2.1) fun y4=>
       dV y4 (fun a5=>
        bM (jF a5.2.2.1.1 a5.2.2.1.2.1 a5.2.2.2.1 a5.2.2.1.2.2.1 a5.2.2.1.2.2.2.1 a5.2.2.1.2.2.2.2.1 [59]) fun y6=>
         bif y6.2.1 then
          bM (lU y6.1.1 y6.1.2.1 y6.1.2.2.1 (dA .i64 y6.1.2.2.2.1 1) y6.1.2.2.2.2.1 y6.1.2.2.2.2.2.1) fun y7=>
           bM ((fF q').q352 y7.1.1 y7.1.2.1 y7.1.2.2.1 y7.1.2.2.2.1 y7.1.2.2.2.2.1 y7.1.2.2.2.2.2.1) fun y8=>
            some ((y8.1.1,(y8.1.2.1,(y8.1.2.2.1,(y8.1.2.2.2.1,(y8.1.2.2.2.2.1,(y8.1.2.2.2.2.2.1,())))))),())
         else
         bM (lU y6.1.1 y6.1.2.1 y6.1.2.2.1 y6.1.2.2.2.1 y6.1.2.2.2.2.1 y6.1.2.2.2.2.2.1) fun y7=>
          bif(bW y7.2.1 0)then
           bM (uB y7.1.1 y7.1.2.1 y7.1.2.2.1 y7.1.2.2.2.1 y7.1.2.2.2.2.1 y7.1.2.2.2.2.2.1) fun y8=>
            bM ((fF q').q352 y8.1.1 y8.1.2.1 y8.1.2.2.1 y8.1.2.2.2.1 y8.1.2.2.2.2.1 y8.1.2.2.2.2.2.1) fun y9=>
             some ((y9.1.1,(y9.1.2.1,(y9.1.2.2.1,(y9.1.2.2.2.1,(y9.1.2.2.2.2.1,(y9.1.2.2.2.2.2.1,())))))),())
          else
          bM ((fF q').q352 y7.1.1 y7.1.2.1 y7.1.2.2.1 y7.1.2.2.2.1 y7.1.2.2.2.2.1 y7.1.2.2.2.2.2.1) fun y8=>
           some ((y8.1.1,(y8.1.2.1,(y8.1.2.2.1,(y8.1.2.2.2.1,(y8.1.2.2.2.2.1,(y8.1.2.2.2.2.2.1,())))))),())) (fun b5=>
        none)
     else
     bM ((fF q').q352 y3.1.1 y3.1.2.1 y3.1.2.2.1 y3.1.2.2.2.1 y3.1.2.2.2.2.1 y3.1.2.2.2.2.2.1) fun y4=>
      some ((y4.1.1,(y4.1.2.1,(y4.1.2.2.1,(y4.1.2.2.2.1,(y4.1.2.2.2.2.1,(y4.1.2.2.2.2.2.1,())))))),()))=some (RR F a' (l++m) u d,())/\a<=a'/\a'<=F.length/\m.length<=16*(a'-a)+4:=by
 obtain⟨p1,p2,p3,p4⟩:=hp;have hFl:=hF.len;rw[mW hF a l u d (by omega) [59] rfl,jo a l u d [59] (by simp),bK,bK];simp only;cases hb:fP F a [59]with
 |true=>
  have hlt:=ig hb;rw[mX hb];simp only[cond_true];have hge:=xm (F:=F) (a+1);have hle:=yh (F:=F) (a:=a+1) (by omega);rw[dC (by omega) (by omega),show(a:Int)+1=((a+1:Nat):Int) by omega,nP hF (a+1) l u d (by omega),mG hF (a+1) l u d (by omega),bK,bK];simp only;obtain⟨a',m,f1,f2,f3,f4,f5⟩:=EZ hF h (ln F (a+1)) l u d q q' (by omega) (by omega) (by omega) ⟨hle,by omega,p3,p4⟩;rw[f1,f2,bK,bK];exact⟨a',m,rfl,rfl,by omega,f4,by omega⟩
 |false=>
  rw[uX hb];simp only[cond_false];have hge:=xm (F:=F) a;have hle:=yh (F:=F) p1;rw[nP hF a l u d p1,mG hF a l u d p1,bK,bK];simp only;rw[mW hF (ln F a) l u d (by omega) [107] rfl,jo (ln F a) l u d [107] (by simp),bK,bK];simp only;cases hb2:fP F (ln F a) [107]with
  |false=>
   rw[uX hb2];simp only[cond_false];obtain⟨a',m,f1,f2,f3,f4,f5⟩:=EZ hF h (ln F a) l u d q q' (by omega) (by omega) (by omega) ⟨hle,by omega,p3,p4⟩;rw[f1,f2,bK,bK];exact⟨a',m,rfl,rfl,by omega,f4,by omega⟩
  |true=>
   have hlt:=ig hb2;rw[mX hb2];simp only[cond_true];obtain⟨a1,m1,g1,g2,g3,g4,g5⟩:=UF hF (q:=fD q) (q':=fF q') u d ⟨p3,p4⟩ bU (ln F a+1) l (dO (by omega)) (by omega) (by omega);rw[dC (by omega) (by omega),show((ln F a:Nat):Int)+1=((ln F a+1:Nat):Int) by omega,g1,g2,bK,bK];simp only[dV];have hL:(l++m1).length<=16*a1+90:=by rw[ae];omega
   rw[mW hF a1 (l++m1) u d (by omega) [59] rfl,jo a1 (l++m1) u d [59] (by simp),bK,bK];simp only;cases hb3:fP F a1 [59]with
   |true=>
    have hlt3:=ig hb3;rw[mX hb3];simp only[cond_true,aB,cond_false];have hge3:=xm (F:=F) (a1+1);have hle3:=yh (F:=F) (a:=a1+1) (by omega);rw[dC (by omega) (by omega),show(a1:Int)+1=((a1+1:Nat):Int) by omega,nP hF (a1+1) (l++m1) u d (by omega),mG hF (a1+1) (l++m1) u d (by omega),bK,bK];simp only;obtain⟨a',m,f1,f2,f3,f4,f5⟩:=EZ hF h (ln F (a1+1)) (l++m1) u d q q' (by omega) (by omega) (by omega) ⟨hle3,by omega,p3,p4⟩;rw[f1,f2,bK,bK];refine⟨a',m1++m, ?_,by simp only[ag],by omega,f4,by rw[ae];omega⟩;cases fP F (a1+1) [110]<;>simp only[aB,aG,cond_true,cond_false,ag]
   |false=>
    rw[uX hb3];simp only[aG,cond_true,cond_false];have hge3:=xm (F:=F) a1;have hle3:=yh (F:=F) g4;rw[nP hF a1 (l++m1) u d g4,mG hF a1 (l++m1) u d g4,bK,bK];simp only;cases hb4:fP F a1 [110]with
    |true=>
     rw[aDw hb4];simp only[aB,cond_false];obtain⟨a',m,f1,f2,f3,f4,f5⟩:=EZ hF h (ln F a1) (l++m1) u d q q' (by omega) (by omega) (by omega) ⟨hle3,by omega,p3,p4⟩;rw[f1,f2,bK,bK];exact⟨a',m1++m,by simp only[ag],by simp only[ag],by omega,f4,by rw[ae];omega⟩
    |false=>
     rw[aF9 hb4];simp only[aG,cond_true];rw[ny (ln F a1) (l++m1) u d (by omega),xu (ln F a1) (l++m1) u d (by omega) p3 (by omega),bK,bK];simp only;obtain⟨a',m,f1,f2,f3,f4,f5⟩:=EZ hF h (ln F a1) (l++m1++[(18,((ln F a1:Nat):Int),((ln F a1:Nat):Int),u,())]) u d q q' (by omega) (by omega) (by omega) ⟨hle3,by simp only[ae,ai];omega,p3,p4⟩;rw[f1,f2,bK,bK];exact⟨a',m1++[(18,((ln F a1:Nat):Int),((ln F a1:Nat):Int),u,())]++m,by simp only[ag],by simp only[ag],by omega,f4,by simp only[ae,ai];omega⟩
theorem aw0 {k:Nat} (h:All F k) (a:Nat) (l:List Nd) (u d:Int) (r r':Nat) (hm:16*(F.length-a)+13<k) (hr:k+2<=r) (hr':k+2<=r') (hp:I5 F a l d 101):
  ∃(a':Nat) (m:List Nd),(fD r).q363 F (a:Int) l u d=some (PR F a' (l++m) u d,())/\
   (fF r').q353 F (iV F) l (a:Int) u d=some (RR F a' (l++m) u d,())/\a<=a'/\a'<=F.length/\m.length<=16*(a'-a)+5:=by
 obtain⟨p1,p2,p3,p4⟩:=hp;have hFl:=hF.len;obtain⟨q,rfl⟩: ∃q,r=q+1:=⟨r-1,by omega⟩;obtain⟨q',rfl⟩: ∃q',r'=q'+1:=⟨r'-1,by omega⟩;obtain⟨a1,m1,t1,t2,t3,t4,t5⟩:=acU hF h a (l++[(18,(a:Int),(a:Int),u,())]) u d q q' (by omega) (by omega) (by omega) ⟨p1,by rw[ae,ai];omega,p3,p4⟩;show ∃(a':Nat) (m:List Nd),ar9 (fD q) F (a:Int) l u d=_/\ar2 (fF q') F (iV F) l (a:Int) u d=_/\_
 (rewrite [ar9,ar2];delta O0 Jt Js;rw[Aj a l u d,bK])
 simp only;by_cases hlt:a<F.length
 ·rw[bZ (b:=iG (a:Int) (bP F)) (fH (by rw[bT];omega))];simp only[show gV F (a:Int)=true from eP (by omega) (by omega),cond_true];rw[Am hlt];by_cases h6:F[a].1=6
  ·have hw:Dl F a=true:=by unfold Dl;rw[dif_pos hlt,decide_eq_true h6]
   rw[bZ (b:=bW F[a].1 6) (fV h6),hw];simp only[cond_true];rw[Og (by have:=hF.txt _ (aQ hlt);omega),xg (by have:=hF.txt _ (aQ hlt);omega),bK,bK];simp only;cases decide (nl F[a].2.1≠0/\nl F[a].2.1=F[a].2.1.length)with
   |true=>
    simp only[cond_true];rw[Iq a l u d 7 (by omega) (by omega),Ox a l u d (by omega) (by omega) rfl (by omega) (by omega) p3 (by omega),bK,bK];obtain⟨a2,m2,s1,s2,s3,s4,s5⟩:=acU hF h (a+1) (l++[(7,(a:Int),((a+1:Nat):Int),u,())]) u d q q' (by omega) (by omega) (by omega) ⟨by omega,by rw[ae,ai];omega,p3,p4⟩;exact⟨a2,[(7,(a:Int),((a+1:Nat):Int),u,())]++m2,by rw[<-ag];exact s1,by rw[<-ag];exact s2,by omega,s4,by rw[ae,ai];omega⟩
   |false=>
    simp only[cond_false];rw[ny a l u d (by omega),xu a l u d (by omega) p3 (by omega),bK,bK];exact⟨a1,[(18,(a:Int),(a:Int),u,())]++m1,by rw[<-ag];exact t1,by rw[<-ag];exact t2,by omega,t4,by rw[ae,ai];omega⟩
  ·have hw:Dl F a=false:=by unfold Dl;rw[dif_pos hlt,decide_eq_false h6]
   rw[dE (b:=bW F[a].1 6) (dW h6),hw];simp only[cond_false];rw[ny a l u d (by omega),xu a l u d (by omega) p3 (by omega),bK,bK];exact⟨a1,[(18,(a:Int),(a:Int),u,())]++m1,by rw[<-ag];exact t1,by rw[<-ag];exact t2,by omega,t4,by rw[ae,ai];omega⟩
 ·have hw:Dl F a=false:=by unfold Dl;rw[dif_neg hlt]
  rw[dE (b:=iG (a:Int) (bP F)) (iy (by rw[bT];omega)),hw];simp only[cond_false];rw[ny a l u d (by omega),xu a l u d (by omega) p3 (by omega),bK,bK];exact⟨a1,[(18,(a:Int),(a:Int),u,())]++m1,by rw[<-ag];exact t1,by rw[<-ag];exact t2,by omega,t4,by rw[ae,ai];omega⟩
end
end Go.Proofs.YtihafdllichkeaaGreatDoor
