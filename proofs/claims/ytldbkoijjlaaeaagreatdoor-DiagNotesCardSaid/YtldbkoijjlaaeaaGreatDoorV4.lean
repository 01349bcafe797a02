/- Parts of the proof, joined and shortened by a program: the plain machine, the functions as it prints them, and the mathematics over them. -/
import Derived.Ground.NamesProg
import Derived.Shelf.Strconv.Itoa3
import Derived.Shelf.Strings.Replace
import Derived.Test.YtldbkoijjlaaeaaGreatDoorV3
set_option linter.unusedVariables false
set_option linter.unusedSimpArgs false
set_option maxRecDepth 100000
set_option maxHeartbeats 4000000
namespace Go.Proofs.YtldbkoijjlaaeaaGreatDoor
section
open Tryz
open Go.RowKit
def aB3 (x0:Int):Option oP:=bif(leI 4 x0)then some ((leI x0 12),())else some (false,())
def aHh:Sum:=⟨[cO],Ou,fun x=>aB3 x.1⟩
theorem apY:dH prog 221 aHh:=qA f221 [] aN
def ajV (x0:bM):Option DT:=bz (OH x0) fun y0=>bif(bJ y0.1 1)then some (97,())else bif(bJ y0.1 2)then some (111,())else bif(bJ y0.1 3)then some (121,())else bz (aB3 y0.1) fun y1=>bif y1.1 then some (60,())else bif(!(bJ y0.1 0))then bif(fB x0 0)then some ((bT x0 0),())else none else some (63,())
def aHb:Sum:=⟨[.str],[(.int .u8,false)],fun x=>ajV x.1⟩
theorem apN:dH prog 182 aHb:=qA f182 [] (sE Og (sE apY aN))
def Zk (x0:bM):Option DT:=bif(fG x0 [100,111])then some (100,())else bif(fG x0 [100,111,110,101])then some (103,())else bif(fG x0 [102,111,114])then some (114,())else bif(fG x0 [105,110])then some (107,())else bif(fG x0 [99,97,115,101])then some (99,())else bif(fG x0 [101,115,97,99])then some (122,())else some (120,())
def Qm (x0:bM):Option DT:=bif(fG x0 [105,102])then some (105,())else bif(fG x0 [116,104,101,110])then some (116,())else bif(fG x0 [101,108,105,102])then some (101,())else bif(fG x0 [101,108,115,101])then some (108,())else bif(fG x0 [102,105])then some (102,())else bif(fG x0 [119,104,105,108,101])then bif(fG x0 [119,104,105,108,101])then some (119,())else Zk x0 else bif(fG x0 [117,110,116,105,108])then some (119,())else Zk x0
def ajW (x0:bM):Option DT:=bif(fG x0 [33])then bif(fG x0 [33])then bif(fB x0 0)then some ((bT x0 0),())else none else Qm x0 else bif(fG x0 [123])then bif(fG x0 [123])then bif(fB x0 0)then some ((bT x0 0),())else none else Qm x0 else bif(fG x0 [125])then bif(fB x0 0)then some ((bT x0 0),())else none else Qm x0
def aHc:Sum:=⟨[.str],[(.int .u8,false)],fun x=>ajW x.1⟩
theorem apO:dH prog 183 aHc:=qA f183 [] aN
def Tz (x0:fU):Option DT:=bif(bJ x0.1 2)then some (110,())else bif(bJ x0.1 4)then bz (ajV x0.2.1) fun y0=>some (y0.1,())else bif(bJ x0.1 5)then some (35,())else bif(bJ x0.1 6)then bz (ajW x0.2.1) fun y0=>some (y0.1,())else some (63,())
def aG1:Sum:=⟨[tyD],[(.int .u8,false)],fun x=>Tz x.1⟩
theorem apy:dH prog 149 aG1:=qA f149 [] (sE apN (sE apO aN))
def yl (x0:List fU) (x1:Int) (x2:List fZ) (x3 x4 x5:Int):Option (taE×DT):=bif(leI (bC x0) (bU .i64 x1 x5))then some ((x0,(x1,(x2,(x3,(x4,()))))),(0,()))else bif(fB x0 (bU .i64 x1 x5))then bz (Tz (dQ x0 (0,([],(0,(0,())))) (bU .i64 x1 x5))) fun y0=>some ((x0,(x1,(x2,(x3,(x4,()))))),(y0.1,()))else none
def aiQ:fP:=⟨115,Hm,[cO],[.int .u8],fun x y=>yl x.1 x.2.1 x.2.2.1 x.2.2.2.1 x.2.2.2.2.1 y.1⟩
theorem sQ:dM prog 112 aiQ:=qB [] (sE apy aN)
def Xn (x0:List fU) (x1:Int) (x2:List fZ) (x3 x4:Int) (x5:bM):Option (taE×oP):=bz (yl x0 x1 x2 x3 x4 0) fun y0=>bif(!(bJ y0.2.1 0))then bz (adV x5 y0.2.1) fun y1=>some ((y0.1.1,(y0.1.2.1,(y0.1.2.2.1,(y0.1.2.2.2.1,(y0.1.2.2.2.2.1,()))))),((leI 0 y1.1),()))else some ((y0.1.1,(y0.1.2.1,(y0.1.2.2.1,(y0.1.2.2.2.1,(y0.1.2.2.2.2.1,()))))),(false,()))
def awU:fP:=⟨115,Hm,[.str],[.bool],fun x y=>Xn x.1 x.2.1 x.2.2.1 x.2.2.2.1 x.2.2.2.2.1 y.1⟩
theorem Ob:dM prog 111 awU:=qB [] (sE Yq aN) (sF sQ aN)
def rG (x0:List fU) (x1:Int) (x2:List fZ) (x3 x4:Int) (x5:bM):Option (taE×oP):=bz (Xn x0 x1 x2 x3 x4 x5) fun y0=>bif(!y0.2.1)then some ((y0.1.1,(y0.1.2.1,(y0.1.2.2.1,(y0.1.2.2.2.1,(y0.1.2.2.2.2.1,()))))),(false,()))else some ((y0.1.1,((bU .i64 y0.1.2.1 1),(y0.1.2.2.1,(y0.1.2.2.2.1,(y0.1.2.2.2.2.1,()))))),(true,()))
def Fq:fP:=⟨115,Hm,[.str],[.bool],fun x y=>rG x.1 x.2.1 x.2.2.1 x.2.2.2.1 x.2.2.2.2.1 y.1⟩
theorem mJ:dM prog 87 Fq:=qB [] aN (sF Ob aN)
def adW (x0:List fU) (x1:Int) (x2:List fZ) (x3 x4:Int):Option (taE×oP):=bz (yl x0 x1 x2 x3 x4 0) fun y0=>bif(bJ y0.2.1 60)then some ((y0.1.1,(y0.1.2.1,(y0.1.2.2.1,(y0.1.2.2.2.1,(y0.1.2.2.2.2.1,()))))),(true,()))else bif(bJ y0.2.1 35)then bz (yl y0.1.1 y0.1.2.1 y0.1.2.2.1 y0.1.2.2.2.1 y0.1.2.2.2.2.1 1) fun y1=>some ((y1.1.1,(y1.1.2.1,(y1.1.2.2.1,(y1.1.2.2.2.1,(y1.1.2.2.2.2.1,()))))),((bJ y1.2.1 60),()))else some ((y0.1.1,(y0.1.2.1,(y0.1.2.2.1,(y0.1.2.2.2.1,(y0.1.2.2.2.2.1,()))))),(false,()))
def aG2:fP:=⟨115,Hm,[],[.bool],fun x y=>adW x.1 x.2.1 x.2.2.1 x.2.2.2.1 x.2.2.2.2.1⟩
theorem Yr:dM prog 150 aG2:=qB [] aN (sF sQ aN)
def Xp (x0:List fU) (x1:Int) (x2:List fZ) (x3 x4:Int):Option (taE×oP):=bif(gU x4 200)then bz (Xn x0 x1 x2 x3 x4 [123,40,105,119,114,99]) fun y0=>some ((y0.1.1,(y0.1.2.1,(y0.1.2.2.1,(y0.1.2.2.2.1,(y0.1.2.2.2.2.1,()))))),(y0.2.1,()))else some ((x0,(x1,(x2,(x3,(x4,()))))),(false,()))
def aiT:fP:=⟨115,Hm,[],[.bool],fun x y=>Xp x.1 x.2.1 x.2.2.1 x.2.2.2.1 x.2.2.2.2.1⟩
theorem Oh:dM prog 151 aiT:=qB [] aN (sF Ob aN)
def adO (x0:List fU) (x1:Int) (x2:List fZ) (x3 x4:Int):Option (taE×oP):=bz (yl x0 x1 x2 x3 x4 0) fun y0=>bif(bJ y0.2.1 120)then some ((y0.1.1,(y0.1.2.1,(y0.1.2.2.1,(y0.1.2.2.2.1,(y0.1.2.2.2.2.1,()))))),(true,()))else bz (adW y0.1.1 y0.1.2.1 y0.1.2.2.1 y0.1.2.2.2.1 y0.1.2.2.2.2.1) fun y1=>bif y1.2.1 then some ((y1.1.1,(y1.1.2.1,(y1.1.2.2.1,(y1.1.2.2.2.1,(y1.1.2.2.2.2.1,()))))),(true,()))else bz (Xp y1.1.1 y1.1.2.1 y1.1.2.2.1 y1.1.2.2.2.1 y1.1.2.2.2.2.1) fun y2=>some ((y2.1.1,(y2.1.2.1,(y2.1.2.2.1,(y2.1.2.2.2.1,(y2.1.2.2.2.2.1,()))))),(y2.2.1,()))
def awV:fP:=⟨115,Hm,[],[.bool],fun x y=>adO x.1 x.2.1 x.2.2.1 x.2.2.2.1 x.2.2.2.2.1⟩
theorem Yl:dM prog 113 awV:=qB [] aN (sF sQ (sF Yr (sF Oh aN)))
def Zt (x0:List fU) (x1:Int) (x2:List fZ) (x3 x4:Int):Option (taE×oP):=bz (yl x0 x1 x2 x3 x4 0) fun y0=>bif(bJ y0.2.1 33)then some ((y0.1.1,(y0.1.2.1,(y0.1.2.2.1,(y0.1.2.2.2.1,(y0.1.2.2.2.2.1,()))))),(true,()))else bz (adO y0.1.1 y0.1.2.1 y0.1.2.2.1 y0.1.2.2.2.1 y0.1.2.2.2.2.1) fun y1=>some ((y1.1.1,(y1.1.2.1,(y1.1.2.2.1,(y1.1.2.2.2.1,(y1.1.2.2.2.2.1,()))))),(y1.2.1,()))
def YC:fP:=⟨115,Hm,[],[.bool],fun x y=>Zt x.1 x.2.1 x.2.2.1 x.2.2.2.1 x.2.2.2.2.1⟩
theorem Fv:dM prog 88 YC:=qB [] aN (sF sQ (sF Yl aN))
noncomputable def aDH:Code:=(f115.body).getD .skip
noncomputable def aqL:Code:=cA (cA (cA (cB (cB (aDH)))))
def ZI:dW:=⟨[0,3,100002],[],[3],[],[2],[]⟩
def aam:SQ:=⟨[.ptr 0 0,.u,.u,.v .bool,.u,.u,.u,.u,.u],[[.ptr 0 0]],[.box 0 115 [.v nK,.v cO,.slc 1,.v cO,.v cO],.arr 1 lG]⟩
def aaV:SQ:=⟨[.u,.u,.u,.v .bool,.u,.u,.u,.u,.u],[[.ptr 0 0]],[.box 0 115 [.v nK,.v cO,.slc 1,.v cO,.v cO],.arr 1 lG]⟩
def abz:SQ:=⟨us [.u,.u,.v .bool] 6,[[.ptr 0 0]],[]⟩
def QN {γ:Type} (rec kE:Bool->(List fU)->Int->Int->Int->(List fZ)->Option γ) (kR:Bool->Option γ) (v0:Bool) (v1:List fU) (v2 v3 v4:Int) (v5:List fZ):Option γ:=bz (rG v1 v2 v5 v3 v4 [110]) fun y0=>bif y0.2.1 then rec v0 y0.1.1 y0.1.2.1 y0.1.2.2.2.1 y0.1.2.2.2.2.1 y0.1.2.2.1 else kE v0 y0.1.1 y0.1.2.1 y0.1.2.2.2.1 y0.1.2.2.2.2.1 y0.1.2.2.1
def J8:Nat->Bool->(List fU)->Int->Int->Int->(List fZ)->Option (aaV.den⊕abz.den)
 |0,_,_,_,_,_,_=>none
 |n+1,v0,v1,v2,v3,v4,v5=>QN (J8 n) (fun e0 e1 e2 e3 e4 e5=>some (.inl ((e0,()),((),()),((e1,e2,e3,e4,()),e5,())))) (fun r0=>some (.inr ((r0,()),((),()),()))) v0 v1 v2 v3 v4 v5
def azQ (n:Nat) (v:aam.den):=J8 n v.1.1 v.2.2.1.1 v.2.2.1.2.1 v.2.2.1.2.2.1 v.2.2.1.2.2.2.1 v.2.2.2.1
noncomputable def akF:di:=eX ZI aam aaV abz (.exit 0) (azQ bH) 6
def o5 (x0:List fU) (x1:Int) (x2:List fZ) (x3 x4:Int):Option (taE×oP):=bz (rG x0 x1 x2 x3 x4 [110]) fun y0=>bz (J8 bH y0.2.1 y0.1.1 y0.1.2.1 y0.1.2.2.2.1 y0.1.2.2.2.2.1 y0.1.2.2.1) fun y1=>dE y1 (fun a2=>some ((a2.2.2.1.1,(a2.2.2.1.2.1,(a2.2.2.2.1,(a2.2.2.1.2.2.1,(a2.2.2.1.2.2.2.1,()))))),(a2.1.1,()))) (fun b2=>none)
def Dv:fP:=⟨115,Hm,[],[.bool],fun x y=>o5 x.1 x.2.1 x.2.2.1 x.2.2.2.1 x.2.2.2.2.1⟩
noncomputable def agv:Env:=gy prog tt [] [(115,2,ZI)] [(115,2,akF)] [] [(87,Fq)]
def al9 {γ:Type} (a:aam.den->Option γ) (b:aaV.den->Option γ) (c:abz.den->Option γ) (v:aam.den):Option γ:=QN (fun v0 v1 v2 v3 v4 v5=>a ((v0,()),((),()),((v1,v2,v3,v4,()),v5,()))) (fun e0 e1 e2 e3 e4 e5=>b ((e0,()),((),()),((e1,e2,e3,e4,()),e5,()))) (fun r0=>c ((r0,()),((),()),())) v.1.1 v.2.2.1.1 v.2.2.1.2.1 v.2.2.1.2.2.1 v.2.2.1.2.2.2.1 v.2.2.2.1
theorem aAu:dG agv 115 aqL akF:=kW (al9) (h2:=by intros;simp only[al9,QN,bV,bW,bu,bQ,bY])
theorem aEJ:dD agv 115 aDH:=nJ [aqL] (aD (fM (aAu)) aN)
theorem anw:eu agv:=eB aN [115] (aD ⟨f115,aDH,by kernel_rfl,by kernel_rfl,aEJ⟩ aN) (hx:=(aD mJ aN))
theorem qI:dM prog 115 Dv:=sB anw
def jM:dW:=⟨[0,2,6,7],[],[],[],[],[]⟩
def yx (x0:List fU) (x1:Int) (x2:List fZ) (x3 x4:Int):Option BC:=bif(bJ 18 18)then bif(bJ x1 x1)then bif(bJ x3 x3)then bif(dO (bG x2 [(18,(x1,(0,(x3,()))))]) 32)then bif(bJ 18 18)then bif(bJ x1 x1)then bif(bJ x3 x3)then bif((bJ 18 18)&&((bJ x1 x1)&&((bJ 0 0)&&((bJ x3 x3)&&true))))then bif(fB (bG x2 [(18,(x1,(0,(x3,()))))]) (bC x2))then bif(nD (dm (bC x2)) (bG x2 [(18,(x1,(0,(x3,()))))]))then some ((x0,(x1,((ig (bG x2 [(18,(x1,(0,(x3,()))))]) (dm (bC x2)) ((dA (bG x2 [(18,(x1,(0,(x3,()))))]) (0,(0,(0,(0,())))) (dm (bC x2))).1,((dA (bG x2 [(18,(x1,(0,(x3,()))))]) (0,(0,(0,(0,())))) (dm (bC x2))).2.1,(x1,((dA (bG x2 [(18,(x1,(0,(x3,()))))]) (0,(0,(0,(0,())))) (dm (bC x2))).2.2.2.1,()))))),(x3,(x4,()))))),())else none else none else none else none else none else none else none else none else none else none
def Ol:fP:=⟨115,Hm,[],[],fun x y=>yx x.1 x.2.1 x.2.2.1 x.2.2.2.1 x.2.2.2.2.1⟩
theorem sU:dM prog 184 Ol:=qB [(184,600000,oC),(58,600003,jM)] aN
def ad3 (x0:bM):Option oP:=bif(!(fG x0 []))then bz (TC x0 0) fun y0=>some ((bJ y0.1 (bC x0)),())else some (false,())
def axz:Sum:=⟨[.str],Ou,fun x=>ad3 x.1⟩
theorem YA:dH prog 253 axz:=qA f253 [] (sE Oq aN)
def aj1 (x0:List fU) (x1:Int) (x2:List fZ) (x3 x4:Int):Option (taE×oP):=bz (yl x0 x1 x2 x3 x4 0) fun y0=>bif(bJ y0.2.1 120)then bz (yl y0.1.1 y0.1.2.1 y0.1.2.2.1 y0.1.2.2.2.1 y0.1.2.2.2.2.1 1) fun y1=>bif(bJ y1.2.1 40)then bif(gU y1.1.2.2.2.2.1 200)then bif(fB y1.1.1 y1.1.2.1)then bz (ad3 (dQ y1.1.1 (0,([],(0,(0,())))) y1.1.2.1).2.1) fun y2=>some ((y1.1.1,(y1.1.2.1,(y1.1.2.2.1,(y1.1.2.2.2.1,(y1.1.2.2.2.2.1,()))))),(y2.1,()))else none else some ((y1.1.1,(y1.1.2.1,(y1.1.2.2.1,(y1.1.2.2.2.1,(y1.1.2.2.2.2.1,()))))),(false,()))else some ((y1.1.1,(y1.1.2.1,(y1.1.2.2.1,(y1.1.2.2.2.1,(y1.1.2.2.2.2.1,()))))),(false,()))else some ((y0.1.1,(y0.1.2.1,(y0.1.2.2.1,(y0.1.2.2.2.1,(y0.1.2.2.2.2.1,()))))),(false,()))
def axr:fP:=⟨115,Hm,[],[.bool],fun x y=>aj1 x.1 x.2.1 x.2.2.1 x.2.2.2.1 x.2.2.2.2.1⟩
theorem apZ:dM prog 224 axr:=qB [] (sE YA aN) (sF sQ aN)
def aEv:dW:=⟨[1,2],[],[],[],[],[]⟩
def TG (x0:List fU) (x1:Int) (x2:List fZ) (x3 x4 x5:Int):Option BC:=bif(bJ x5 x5)then bif(bJ x1 x1)then bif(bJ x3 x3)then bif(dO (bG x2 [(x5,(x1,(0,(x3,()))))]) 32)then bif(bJ x5 x5)then bif(bJ x1 x1)then bif(bJ x3 x3)then bif((bJ x5 x5)&&((bJ x1 x1)&&((bJ 0 0)&&((bJ x3 x3)&&true))))then bif(fB (bG x2 [(x5,(x1,(0,(x3,()))))]) (bC x2))then bif(nD (dm (bC x2)) (bG x2 [(x5,(x1,(0,(x3,()))))]))then some ((x0,((bU .i64 x1 1),((ig (bG x2 [(x5,(x1,(0,(x3,()))))]) (dm (bC x2)) ((dA (bG x2 [(x5,(x1,(0,(x3,()))))]) (0,(0,(0,(0,())))) (dm (bC x2))).1,((dA (bG x2 [(x5,(x1,(0,(x3,()))))]) (0,(0,(0,(0,())))) (dm (bC x2))).2.1,((bU .i64 x1 1),((dA (bG x2 [(x5,(x1,(0,(x3,()))))]) (0,(0,(0,(0,())))) (dm (bC x2))).2.2.2.1,()))))),(x3,(x4,()))))),())else none else none else none else none else none else none else none else none else none else none
def am7:fP:=⟨115,Hm,[cO],[],fun x y=>TG x.1 x.2.1 x.2.2.1 x.2.2.2.1 x.2.2.2.2.1 y.1⟩
theorem LX:dM prog 90 am7:=qB [(90,600001,aEv),(58,600003,jM)] aN
def OM (x0:List fU) (x1:Int) (x2:List fZ) (x3 x4:Int):Option (taE×oP):=bif(gU x1 (bC x0))then bif(fB x0 x1)then some ((x0,(x1,(x2,(x3,(x4,()))))),((bJ (dQ x0 (0,([],(0,(0,())))) x1).1 6),()))else none else some ((x0,(x1,(x2,(x3,(x4,()))))),(false,()))
def sum256:fP:=⟨115,Hm,[],[.bool],fun x y=>OM x.1 x.2.1 x.2.2.1 x.2.2.2.1 x.2.2.2.2.1⟩
theorem G7:dM prog 256 sum256:=qB [] aN
def OL (x0:List fU) (x1:Int) (x2:List fZ) (x3 x4:Int):Option BC:=bz (OM x0 x1 x2 x3 x4) fun y0=>bif y0.2.1 then bz (TG y0.1.1 y0.1.2.1 y0.1.2.2.1 y0.1.2.2.2.1 y0.1.2.2.2.2.1 7) fun y1=>some ((y1.1.1,(y1.1.2.1,(y1.1.2.2.1,(y1.1.2.2.2.1,(y1.1.2.2.2.2.1,()))))),())else bz (yx y0.1.1 y0.1.2.1 y0.1.2.2.1 y0.1.2.2.2.1 y0.1.2.2.2.2.1) fun y1=>some ((y1.1.1,(y1.1.2.1,(y1.1.2.2.1,(y1.1.2.2.2.1,(y1.1.2.2.2.2.1,()))))),())
def ac3:fP:=⟨115,Hm,[],[],fun x y=>OL x.1 x.2.1 x.2.2.1 x.2.2.2.1 x.2.2.2.2.1⟩
theorem G6:dM prog 254 ac3:=qB [] aN (sF LX (sF sU (sF G7 aN)))
def akx:dW:=⟨[1],[],[],[],[],[]⟩
def Ar (x0:List fU) (x1:Int) (x2:List fZ) (x3 x4:Int):Option (taE×oP):=bz (adW x0 x1 x2 x3 x4) fun y0=>bif(!y0.2.1)then some ((y0.1.1,(y0.1.2.1,(y0.1.2.2.1,(y0.1.2.2.2.1,(y0.1.2.2.2.2.1,()))))),(false,()))else bif(bJ 8 8)then bif(bJ y0.1.2.1 y0.1.2.1)then bif(bJ y0.1.2.2.2.1 y0.1.2.2.2.1)then bif(dO (bG y0.1.2.2.1 [(8,(y0.1.2.1,(0,(y0.1.2.2.2.1,()))))]) 32)then bif(bJ 8 8)then bif(bJ y0.1.2.1 y0.1.2.1)then bif(bJ y0.1.2.2.2.1 y0.1.2.2.2.1)then bif((bJ 8 8)&&((bJ y0.1.2.1 y0.1.2.1)&&((bJ 0 0)&&((bJ y0.1.2.2.2.1 y0.1.2.2.2.1)&&true))))then bz (rG y0.1.1 y0.1.2.1 (bG y0.1.2.2.1 [(8,(y0.1.2.1,(0,(y0.1.2.2.2.1,()))))]) (bC y0.1.2.2.1) y0.1.2.2.2.2.1 [35]) fun y1=>bz (rG y1.1.1 y1.1.2.1 y1.1.2.2.1 y1.1.2.2.2.1 y1.1.2.2.2.2.1 [60]) fun y2=>bz (OL y2.1.1 y2.1.2.1 y2.1.2.2.1 y2.1.2.2.2.1 y2.1.2.2.2.2.1) fun y3=>bif(fB y3.1.2.2.1 (bC y0.1.2.2.1))then bif(nD (dm (bC y0.1.2.2.1)) y3.1.2.2.1)then some ((y3.1.1,(y3.1.2.1,((ig y3.1.2.2.1 (dm (bC y0.1.2.2.1)) ((dA y3.1.2.2.1 (0,(0,(0,(0,())))) (dm (bC y0.1.2.2.1))).1,((dA y3.1.2.2.1 (0,(0,(0,(0,())))) (dm (bC y0.1.2.2.1))).2.1,(y3.1.2.1,((dA y3.1.2.2.1 (0,(0,(0,(0,())))) (dm (bC y0.1.2.2.1))).2.2.2.1,()))))),(y0.1.2.2.2.1,(y3.1.2.2.2.2.1,()))))),(true,()))else none else none else none else none else none else none else none else none else none else none
def aiW:fP:=⟨115,Hm,[],[.bool],fun x y=>Ar x.1 x.2.1 x.2.2.1 x.2.2.2.1 x.2.2.2.2.1⟩
theorem Yz:dM prog 252 aiW:=qB [(252,600003,akx),(58,600003,jM)] aN (sF mJ (sF Yr (sF G6 aN)))
def akc (x0:bM):Option (bM×bM×Bool×Unit):=bz (TC x0 0) fun y0=>bif(bJ y0.1 0)then some ([],([],(false,())))else bif(bJ y0.1 (bC x0))then some ([],([],(false,())))else bif(fB x0 y0.1)then bif(!(bJ (bT x0 y0.1) 61))then some ([],([],(false,())))else bif(eU (bC x0) 0 y0.1)then bif(eU (bC x0) (bU .i64 y0.1 1) (bC x0))then some ((sub x0 0 y0.1),((sub x0 (bU .i64 y0.1 1) (bC x0)),(true,())))else none else none else none
def aHp:Sum:=⟨[.str],[(.str,false),(.str,false),(.bool,false)],fun x=>akc x.1⟩
theorem aqa:dH prog 270 aHp:=qA f270 [] (sE Oq aN)
def akb (x0:bM):Option oP:=bz (akc x0) fun y0=>some (y0.2.2.1,())
def axA:Sum:=⟨[.str],Ou,fun x=>akb x.1⟩
theorem ap8:dH prog 257 axA:=qA f257 [] (sE aqa aN)
noncomputable def aDN:Code:=(f227.body).getD .skip
noncomputable def aq6:Code:=cA (cA (cB (cB (cA (aDN)))))
def at1:dW:=⟨[0,2,100003],[],[],[],[],[]⟩
def aaI:SQ:=⟨us [.ptr 0 0,.u,.v .bool] 28,[[.ptr 0 0]],[.box 0 115 [.v nK,.v cO,.slc 1,.v cO,.v cO],.arr 1 lG]⟩
def abh:SQ:=⟨us [] 31,[[.ptr 0 0]],[.box 0 115 [.v nK,.v cO,.slc 1,.v cO,.v cO],.arr 1 lG]⟩
def abV:SQ:=⟨us [] 31,[[.ptr 0 0]],[]⟩
def Q8 {γ:Type} (rec:Bool->(List fU)->Int->Int->Int->(List fZ)->Option γ) (kE:(List fU)->Int->Int->Int->(List fZ)->Option γ) (kR:Option γ) (v0:Bool) (v1:List fU) (v2 v3 v4:Int) (v5:List fZ):Option γ:=bz (Ar v1 v2 v5 v3 v4) fun y0=>bif y0.2.1 then rec v0 y0.1.1 y0.1.2.1 y0.1.2.2.2.1 y0.1.2.2.2.2.1 y0.1.2.2.1 else bz (OM y0.1.1 y0.1.2.1 y0.1.2.2.1 y0.1.2.2.2.1 y0.1.2.2.2.2.1) fun y1=>bif(!y1.2.1)then kE y1.1.1 y1.1.2.1 y1.1.2.2.2.1 y1.1.2.2.2.2.1 y1.1.2.2.1 else bif(!v0)then bif(fB y1.1.1 y1.1.2.1)then bz (akb (dQ y1.1.1 (0,([],(0,(0,())))) y1.1.2.1).2.1) fun y2=>bif y2.1 then bz (TG y1.1.1 y1.1.2.1 y1.1.2.2.1 y1.1.2.2.2.1 y1.1.2.2.2.2.1 6) fun y3=>rec v0 y3.1.1 y3.1.2.1 y3.1.2.2.2.1 y3.1.2.2.2.2.1 y3.1.2.2.1 else bz (TG y1.1.1 y1.1.2.1 y1.1.2.2.1 y1.1.2.2.2.1 y1.1.2.2.2.2.1 7) fun y3=>rec true y3.1.1 y3.1.2.1 y3.1.2.2.2.1 y3.1.2.2.2.2.1 y3.1.2.2.1 else none else bz (TG y1.1.1 y1.1.2.1 y1.1.2.2.1 y1.1.2.2.2.1 y1.1.2.2.2.2.1 7) fun y2=>rec true y2.1.1 y2.1.2.1 y2.1.2.2.2.1 y2.1.2.2.2.2.1 y2.1.2.2.1
def Gs:Nat->Bool->(List fU)->Int->Int->Int->(List fZ)->Option (abh.den⊕abV.den)
 |0,_,_,_,_,_,_=>none
 |n+1,v0,v1,v2,v3,v4,v5=>Q8 (Gs n) (fun e0 e1 e2 e3 e4=>some (.inl ((),((),()),((e0,e1,e2,e3,()),e4,())))) (some (.inr ((),((),()),()))) v0 v1 v2 v3 v4 v5
def aAc (n:Nat) (v:aaI.den):=Gs n v.1.1 v.2.2.1.1 v.2.2.1.2.1 v.2.2.1.2.2.1 v.2.2.1.2.2.2.1 v.2.2.2.1
noncomputable def ak0:di:=eX at1 aaI abh abV (.exit 0) (aAc bH) 6
def aj2 (x0:List fU) (x1:Int) (x2:List fZ) (x3 x4:Int):Option BC:=bz (Gs bH false x0 x1 x3 x4 x2) fun y0=>dE y0 (fun a1=>some ((a1.2.2.1.1,(a1.2.2.1.2.1,(a1.2.2.2.1,(a1.2.2.1.2.2.1,(a1.2.2.1.2.2.2.1,()))))),())) (fun b1=>none)
def axs:fP:=⟨115,Hm,[],[],fun x y=>aj2 x.1 x.2.1 x.2.2.1 x.2.2.2.1 x.2.2.2.2.1⟩
noncomputable def agN:Env:=gy prog tt [(257,axA)] [(227,3,at1)] [(227,3,ak0)] [] [(90,am7),(252,aiW),(256,sum256)]
def amx {γ:Type} (a:aaI.den->Option γ) (b:abh.den->Option γ) (c:abV.den->Option γ) (v:aaI.den):Option γ:=Q8 (fun v0 v1 v2 v3 v4 v5=>a ((v0,()),((),()),((v1,v2,v3,v4,()),v5,()))) (fun e0 e1 e2 e3 e4=>b ((),((),()),((e0,e1,e2,e3,()),e4,()))) (c ((),((),()),())) v.1.1 v.2.2.1.1 v.2.2.1.2.1 v.2.2.1.2.2.1 v.2.2.1.2.2.2.1 v.2.2.2.1
theorem aAQ:dG agN 227 aq6 ak0:=kW (amx) (h2:=by intros;simp only[amx,Q8,bV,bW,bu,bQ,bY])
theorem aE9:dD agN 227 aDN:=nJ [aq6] (aD (fM (aAQ)) aN)
theorem an4:eu agN:=eB (aD ap8 aN) [227] (aD ⟨f227,aDN,by kernel_rfl,by kernel_rfl,aE9⟩ aN) (hx:=(aD LX (aD Yz (aD G7 aN))))
theorem ap0:dM prog 227 axs:=sB an4
def rM (x0:List fU) (x1:Int) (x2:List fZ) (x3 x4:Int) (x5:bM):Option BC:=bz (rG x0 x1 x2 x3 x4 x5) fun y0=>bif(!y0.2.1)then bz (yx y0.1.1 y0.1.2.1 y0.1.2.2.1 y0.1.2.2.2.1 y0.1.2.2.2.2.1) fun y1=>some ((y1.1.1,(y1.1.2.1,(y1.1.2.2.1,(y1.1.2.2.2.1,(y1.1.2.2.2.2.1,()))))),())else some ((y0.1.1,(y0.1.2.1,(y0.1.2.2.1,(y0.1.2.2.2.1,(y0.1.2.2.2.2.1,()))))),())
def Fj:fP:=⟨115,Hm,[.str],[],fun x y=>rM x.1 x.2.1 x.2.2.1 x.2.2.2.1 x.2.2.2.2.1 y.1⟩
theorem sV:dM prog 255 Fj:=qB [] aN (sF mJ (sF sU aN))
structure iq where
 q89:(List fU)->Int->(List fZ)->Int->Int->Option BC
 q114:(List fU)->Int->(List fZ)->Int->Int->Option BC
 q152:(List fU)->Int->(List fZ)->Int->Int->Option BC
 q186:(List fU)->Int->(List fZ)->Int->Int->Option BC
 q226:(List fU)->Int->(List fZ)->Int->Int->Option BC
 q223:(List fU)->Int->(List fZ)->Int->Int->Option BC
 q266:(List fU)->Int->(List fZ)->Int->Int->Option BC
 q245:(List fU)->Int->(List fZ)->Int->Int->Option BC
 q246:(List fU)->Int->(List fZ)->Int->Int->Option BC
 q247:(List fU)->Int->(List fZ)->Int->Int->Option BC
 q248:(List fU)->Int->(List fZ)->Int->Int->Option BC
 q249:(List fU)->Int->(List fZ)->Int->Int->Option BC
 q250:(List fU)->Int->(List fZ)->Int->Int->Option BC
 q268:(List fU)->Int->(List fZ)->Int->Int->Option BC
 q267:(List fU)->Int->(List fZ)->Int->Int->Option BC
def aiY (q:iq):fP:=⟨115,Hm,[],[],fun x y=>q.q89 x.1 x.2.1 x.2.2.1 x.2.2.2.1 x.2.2.2.2.1⟩
def amP (q:iq):fP:=⟨115,Hm,[],[],fun x y=>q.q114 x.1 x.2.1 x.2.2.1 x.2.2.2.1 x.2.2.2.2.1⟩
def amR (q:iq):fP:=⟨115,Hm,[],[],fun x y=>q.q152 x.1 x.2.1 x.2.2.1 x.2.2.2.1 x.2.2.2.2.1⟩
def amT (q:iq):fP:=⟨115,Hm,[],[],fun x y=>q.q186 x.1 x.2.1 x.2.2.1 x.2.2.2.1 x.2.2.2.2.1⟩
def amW (q:iq):fP:=⟨115,Hm,[],[],fun x y=>q.q226 x.1 x.2.1 x.2.2.1 x.2.2.2.1 x.2.2.2.2.1⟩
def ac2 (q:iq):fP:=⟨115,Hm,[],[],fun x y=>q.q223 x.1 x.2.1 x.2.2.1 x.2.2.2.1 x.2.2.2.2.1⟩
def G8 (q:iq):fP:=⟨115,Hm,[],[],fun x y=>q.q266 x.1 x.2.1 x.2.2.1 x.2.2.2.1 x.2.2.2.2.1⟩
def amX (q:iq):fP:=⟨115,Hm,[],[],fun x y=>q.q245 x.1 x.2.1 x.2.2.1 x.2.2.2.1 x.2.2.2.2.1⟩
def amY (q:iq):fP:=⟨115,Hm,[],[],fun x y=>q.q246 x.1 x.2.1 x.2.2.1 x.2.2.2.1 x.2.2.2.2.1⟩
def amZ (q:iq):fP:=⟨115,Hm,[],[],fun x y=>q.q247 x.1 x.2.1 x.2.2.1 x.2.2.2.1 x.2.2.2.2.1⟩
def am0 (q:iq):fP:=⟨115,Hm,[],[],fun x y=>q.q248 x.1 x.2.1 x.2.2.1 x.2.2.2.1 x.2.2.2.2.1⟩
def am1 (q:iq):fP:=⟨115,Hm,[],[],fun x y=>q.q249 x.1 x.2.1 x.2.2.1 x.2.2.2.1 x.2.2.2.2.1⟩
def am2 (q:iq):fP:=⟨115,Hm,[],[],fun x y=>q.q250 x.1 x.2.1 x.2.2.1 x.2.2.2.1 x.2.2.2.2.1⟩
def am3 (q:iq):fP:=⟨115,Hm,[],[],fun x y=>q.q268 x.1 x.2.1 x.2.2.1 x.2.2.2.1 x.2.2.2.2.1⟩
def ac4 (q:iq):fP:=⟨115,Hm,[],[],fun x y=>q.q267 x.1 x.2.1 x.2.2.1 x.2.2.2.1 x.2.2.2.2.1⟩
noncomputable def b89:Code:=(f89.body).getD .skip
noncomputable def aBR:Code:=cA (cA (cB (cA (b89))))
def aCn:dW:=⟨[0,100000],[],[],[],[],[]⟩
def alM:SQ:=⟨us [.ptr 0 0] 15,[[.ptr 0 0]],[.box 0 115 [.v nK,.v cO,.slc 1,.v cO,.v cO],.arr 1 lG]⟩
def ah4:SQ:=⟨us [] 16,[[.ptr 0 0]],[.box 0 115 [.v nK,.v cO,.slc 1,.v cO,.v cO],.arr 1 lG]⟩
def aiw:SQ:=⟨us [] 16,[[.ptr 0 0]],[]⟩
def acR (q:iq) {γ:Type} (rec kE:(List fU)->Int->Int->Int->(List fZ)->Option γ) (kR:Option γ) (v0:List fU) (v1 v2 v3:Int) (v4:List fZ):Option γ:=bif(bJ 3 3)then bif(bJ v1 v1)then bif(bJ v2 v2)then bif(dO (bG v4 [(3,(v1,(0,(v2,()))))]) 32)then bif(bJ 3 3)then bif(bJ v1 v1)then bif(bJ v2 v2)then bif((bJ 3 3)&&((bJ v1 v1)&&((bJ 0 0)&&((bJ v2 v2)&&true))))then bz (q.q114 v0 v1 (bG v4 [(3,(v1,(0,(v2,()))))]) (bC v4) v3) fun y0=>bif(fB y0.1.2.2.1 (bC v4))then bif(nD (dm (bC v4)) y0.1.2.2.1)then bz (rG y0.1.1 y0.1.2.1 (ig y0.1.2.2.1 (dm (bC v4)) ((dA y0.1.2.2.1 (0,(0,(0,(0,())))) (dm (bC v4))).1,((dA y0.1.2.2.1 (0,(0,(0,(0,())))) (dm (bC v4))).2.1,(y0.1.2.1,((dA y0.1.2.2.1 (0,(0,(0,(0,())))) (dm (bC v4))).2.2.2.1,()))))) v2 y0.1.2.2.2.2.1 [59,38]) fun y1=>bif y1.2.1 then bz (o5 y1.1.1 y1.1.2.1 y1.1.2.2.1 y1.1.2.2.2.1 y1.1.2.2.2.2.1) fun y2=>bz (Zt y2.1.1 y2.1.2.1 y2.1.2.2.1 y2.1.2.2.2.1 y2.1.2.2.2.2.1) fun y3=>bif(!y3.2.1)then kE y3.1.1 y3.1.2.1 y3.1.2.2.2.1 y3.1.2.2.2.2.1 y3.1.2.2.1 else rec y3.1.1 y3.1.2.1 y3.1.2.2.2.1 y3.1.2.2.2.2.1 y3.1.2.2.1 else bz (o5 y1.1.1 y1.1.2.1 y1.1.2.2.1 y1.1.2.2.2.1 y1.1.2.2.2.2.1) fun y2=>bif(!y2.2.1)then kE y2.1.1 y2.1.2.1 y2.1.2.2.2.1 y2.1.2.2.2.2.1 y2.1.2.2.1 else bz (Zt y2.1.1 y2.1.2.1 y2.1.2.2.1 y2.1.2.2.2.1 y2.1.2.2.2.2.1) fun y3=>bif(!y3.2.1)then kE y3.1.1 y3.1.2.1 y3.1.2.2.2.1 y3.1.2.2.2.2.1 y3.1.2.2.1 else rec y3.1.1 y3.1.2.1 y3.1.2.2.2.1 y3.1.2.2.2.2.1 y3.1.2.2.1 else none else none else none else none else none else none else none else none else none else none
def Et (q:iq):Nat->(List fU)->Int->Int->Int->(List fZ)->Option (ah4.den⊕aiw.den)
 |0,_,_,_,_,_=>none
 |n+1,v0,v1,v2,v3,v4=>acR q (Et q n) (fun e0 e1 e2 e3 e4=>some (.inl ((),((),()),((e0,e1,e2,e3,()),e4,())))) (some (.inr ((),((),()),()))) v0 v1 v2 v3 v4
def aFF (q:iq) (n:Nat) (v:alM.den):=Et q n v.2.2.1.1 v.2.2.1.2.1 v.2.2.1.2.2.1 v.2.2.1.2.2.2.1 v.2.2.2.1
noncomputable def ava (q:iq):di:=eX aCn alM ah4 aiw (.exit 0) (aFF q bH) 6
def aEi (q:iq) (x0:List fU) (x1:Int) (x2:List fZ) (x3 x4:Int):Option BC:=bz (Et q bH x0 x1 x3 x4 x2) fun y0=>dE y0 (fun a1=>some ((a1.2.2.1.1,(a1.2.2.1.2.1,(a1.2.2.2.1,(a1.2.2.1.2.2.1,(a1.2.2.1.2.2.2.1,()))))),())) (fun b1=>none)
noncomputable def asn (q:iq):Env:=gy prog tt [] [(89,0,aCn),(89,600000,oC),(58,600003,jM)] [(89,0,ava q)] [] [(87,Fq),(88,YC),(114,amP q),(115,Dv)]
def aws (q:iq) {γ:Type} (a:alM.den->Option γ) (b:ah4.den->Option γ) (c:aiw.den->Option γ) (v:alM.den):Option γ:=acR q (fun v0 v1 v2 v3 v4=>a ((),((),()),((v0,v1,v2,v3,()),v4,()))) (fun e0 e1 e2 e3 e4=>b ((),((),()),((e0,e1,e2,e3,()),e4,()))) (c ((),((),()),())) v.2.2.1.1 v.2.2.1.2.1 v.2.2.1.2.2.1 v.2.2.1.2.2.2.1 v.2.2.2.1
theorem aGl (q:iq):dG (asn q) 89 aBR (ava q):=kW (aws q) (h2:=by intros;simp only[aws,acR,bV,bW,bu,bQ,bY])
theorem aIN (q:iq):dD (asn q) 89 b89:=nJ [aBR] (aD (fM (aGl q)) aN)
abbrev H89 (q:iq):Prop:=dM prog 89 (aiY q)/\dM prog 114 (amP q)/\dM prog 152 (amR q)/\dM prog 186 (amT q)/\dM prog 226 (amW q)/\dM prog 223 (ac2 q)/\dM prog 266 (G8 q)/\dM prog 245 (amX q)/\dM prog 246 (amY q)/\dM prog 247 (amZ q)/\dM prog 248 (am0 q)/\dM prog 249 (am1 q)/\dM prog 250 (am2 q)/\dM prog 268 (am3 q)/\dM prog 267 (ac4 q)
theorem aso (q:iq) (H:H89 q):eu (asn q):=eB aN [89] (aD ⟨f89,b89,by kernel_rfl,by kernel_rfl,aIN q⟩ aN) (hx:=(aD mJ (aD Fv (aD H.2.1 (aD qI aN)))))
noncomputable def aDG:Code:=(f114.body).getD .skip
noncomputable def aqK:Code:=cA (cA (cB (aDG)))
def atH:dW:=⟨[0,100001],[],[],[],[],[]⟩
def aal:SQ:=⟨us [.ptr 0 0] 9,[[.ptr 0 0]],[.box 0 115 [.v nK,.v cO,.slc 1,.v cO,.v cO],.arr 1 lG]⟩
def aaU:SQ:=⟨us [] 10,[[.ptr 0 0]],[.box 0 115 [.v nK,.v cO,.slc 1,.v cO,.v cO],.arr 1 lG]⟩
def aby:SQ:=⟨us [] 10,[[.ptr 0 0]],[]⟩
def QM (q:iq) {γ:Type} (rec kE:(List fU)->Int->Int->Int->(List fZ)->Option γ) (kR:Option γ) (v0:List fU) (v1 v2 v3:Int) (v4:List fZ):Option γ:=bz (rG v0 v1 v4 v2 v3 [97,111]) fun y0=>bif y0.2.1 then bz (o5 y0.1.1 y0.1.2.1 y0.1.2.2.1 y0.1.2.2.2.1 y0.1.2.2.2.2.1) fun y1=>bz (q.q152 y1.1.1 y1.1.2.1 y1.1.2.2.1 y1.1.2.2.2.1 y1.1.2.2.2.2.1) fun y2=>rec y2.1.1 y2.1.2.1 y2.1.2.2.2.1 y2.1.2.2.2.2.1 y2.1.2.2.1 else kE y0.1.1 y0.1.2.1 y0.1.2.2.2.1 y0.1.2.2.2.2.1 y0.1.2.2.1
def J7 (q:iq):Nat->(List fU)->Int->Int->Int->(List fZ)->Option (aaU.den⊕aby.den)
 |0,_,_,_,_,_=>none
 |n+1,v0,v1,v2,v3,v4=>QM q (J7 q n) (fun e0 e1 e2 e3 e4=>some (.inl ((),((),()),((e0,e1,e2,e3,()),e4,())))) (some (.inr ((),((),()),()))) v0 v1 v2 v3 v4
def azP (q:iq) (n:Nat) (v:aal.den):=J7 q n v.2.2.1.1 v.2.2.1.2.1 v.2.2.1.2.2.1 v.2.2.1.2.2.2.1 v.2.2.2.1
noncomputable def akE (q:iq):di:=eX atH aal aaU aby (.exit 0) (azP q bH) 6
def asO (q:iq) (x0:List fU) (x1:Int) (x2:List fZ) (x3 x4:Int):Option BC:=bz (q.q152 x0 x1 x2 x3 x4) fun y0=>bz (J7 q bH y0.1.1 y0.1.2.1 y0.1.2.2.2.1 y0.1.2.2.2.2.1 y0.1.2.2.1) fun y1=>dE y1 (fun a2=>some ((a2.2.2.1.1,(a2.2.2.1.2.1,(a2.2.2.2.1,(a2.2.2.1.2.2.1,(a2.2.2.1.2.2.2.1,()))))),())) (fun b2=>none)
noncomputable def agu (q:iq):Env:=gy prog tt [] [(114,1,atH)] [(114,1,akE q)] [] [(87,Fq),(115,Dv),(152,amR q)]
def al8 (q:iq) {γ:Type} (a:aal.den->Option γ) (b:aaU.den->Option γ) (c:aby.den->Option γ) (v:aal.den):Option γ:=QM q (fun v0 v1 v2 v3 v4=>a ((),((),()),((v0,v1,v2,v3,()),v4,()))) (fun e0 e1 e2 e3 e4=>b ((),((),()),((e0,e1,e2,e3,()),e4,()))) (c ((),((),()),())) v.2.2.1.1 v.2.2.1.2.1 v.2.2.1.2.2.1 v.2.2.1.2.2.2.1 v.2.2.2.1
theorem aAt (q:iq):dG (agu q) 114 aqK (akE q):=kW (al8 q) (h2:=by intros;simp only[al8,QM,bV,bW,bu,bQ,bY])
theorem aEI (q:iq):dD (agu q) 114 aDG:=nJ [aqK] (aD (fM (aAt q)) aN)
theorem anv (q:iq) (H:H89 q):eu (agu q):=eB aN [114] (aD ⟨f114,aDG,by kernel_rfl,by kernel_rfl,aEI q⟩ aN) (hx:=(aD mJ (aD qI (aD H.2.2.1 aN))))
noncomputable def RS:Code:=(f185.body).getD .skip
noncomputable def SA:Code:=cA (cA (cB (cB (RS))))
def TZ:dW:=⟨[0,186000002],[],[],[],[],[]⟩
def CX:SQ:=⟨us [.ptr 1000001 0] 10,[us [.ptr 0 0,.u,.fn 185 [(1000001,0)],.u,.u,.u,.v cO,.v cO,.u,.u,.u,.u,.u,.u,.u,.u,.u,.u,.u,.u,.u,.u,.u,.u,.u,.u,.u,.u,.u,.u,.u,.u,.u,.u,.u,.u,.u,.fn 185 [(1000001,0)]] 16,[.u,.ptr 1000001 0,.u,.u,.u,.u,.u,.ptr 0 0,.fn 185 [(1000001,0)],.u],[.ptr 0 0]],[.box 1000001 113 [.ptr 0 0],.box 0 115 [.v nK,.v cO,.slc 1,.v cO,.v cO],.arr 1 lG]⟩
def EO:SQ:=⟨us [] 11,[us [.ptr 0 0,.u,.fn 185 [(1000001,0)],.u,.u,.u,.v cO,.v cO,.u,.u,.u,.u,.u,.u,.u,.u,.u,.u,.u,.u,.u,.u,.u,.u,.u,.u,.u,.u,.u,.u,.u,.u,.u,.u,.u,.u,.u,.fn 185 [(1000001,0)]] 16,[.u,.ptr 1000001 0,.u,.u,.u,.u,.u,.ptr 0 0,.fn 185 [(1000001,0)],.u],[.ptr 0 0]],[.box 1000001 113 [.ptr 0 0],.box 0 115 [.v nK,.v cO,.slc 1,.v cO,.v cO],.arr 1 lG]⟩
def EW:SQ:=⟨us [] 11,[us [.ptr 0 0,.u,.fn 185 [(1000001,0)],.u,.u,.u,.v cO,.v cO,.u,.u,.u,.u,.u,.u,.u,.u,.u,.u,.u,.u,.u,.u,.u,.u,.u,.u,.u,.u,.u,.u,.u,.u,.u,.u,.u,.u,.u,.fn 185 [(1000001,0)]] 16,[.u,.ptr 1000001 0,.u,.u,.u,.u,.u,.ptr 0 0,.fn 185 [(1000001,0)],.u],[.ptr 0 0]],[]⟩
def yV (q:iq) {γ:Type} (rec kE:Int->Int->(List fU)->Int->Int->Int->(List fZ)->Option γ) (kR:Int->Int->Option γ) (v0 v1:Int) (v2:List fU) (v3 v4 v5:Int) (v6:List fZ):Option γ:=bz (rG v2 v3 v6 v4 v5 [124]) fun y0=>bif y0.2.1 then bz (o5 y0.1.1 y0.1.2.1 y0.1.2.2.1 y0.1.2.2.2.1 y0.1.2.2.2.2.1) fun y1=>bz (q.q186 y1.1.1 y1.1.2.1 y1.1.2.2.1 y1.1.2.2.2.1 y1.1.2.2.2.2.1) fun y2=>rec v0 v1 y2.1.1 y2.1.2.1 y2.1.2.2.2.1 y2.1.2.2.2.2.1 y2.1.2.2.1 else kE v0 v1 y0.1.1 y0.1.2.1 y0.1.2.2.2.1 y0.1.2.2.2.2.1 y0.1.2.2.1
def uC (q:iq):Nat->Int->Int->(List fU)->Int->Int->Int->(List fZ)->Option (EO.den⊕EW.den)
 |0,_,_,_,_,_,_,_=>none
 |n+1,v0,v1,v2,v3,v4,v5,v6=>yV q (uC q n) (fun e0 e1 e2 e3 e4 e5 e6=>some (.inl ((),((e0,e1,()),(),(),()),((),(e2,e3,e4,e5,()),e6,())))) (fun r0 r1=>some (.inr ((),((r0,r1,()),(),(),()),()))) v0 v1 v2 v3 v4 v5 v6
def aeL (q:iq) (n:Nat) (v:CX.den):=uC q n v.2.1.1.1 v.2.1.1.2.1 v.2.2.2.1.1 v.2.2.2.1.2.1 v.2.2.2.1.2.2.1 v.2.2.2.1.2.2.2.1 v.2.2.2.2.1
noncomputable def O9 (q:iq):di:=eX TZ CX EO EW (.exit 0) (aeL q bH) 6
def adL (q:iq) (x0:List fU) (x1:Int) (x2:List fZ) (x3 x4:Int):Option BC:=bz (Zt x0 x1 x2 x3 x4) fun y0=>bif(!y0.2.1)then bz (yx y0.1.1 y0.1.2.1 y0.1.2.2.1 y0.1.2.2.2.1 y0.1.2.2.2.2.1) fun y1=>some ((y1.1.1,(y1.1.2.1,(y1.1.2.2.1,(y1.1.2.2.2.1,(y1.1.2.2.2.2.1,()))))),())else bif(bJ 4 4)then bif(bJ y0.1.2.1 y0.1.2.1)then bif(bJ y0.1.2.2.2.1 y0.1.2.2.2.1)then bif(dO (bG y0.1.2.2.1 [(4,(y0.1.2.1,(0,(y0.1.2.2.2.1,()))))]) 32)then bif(bJ 4 4)then bif(bJ y0.1.2.1 y0.1.2.1)then bif(bJ y0.1.2.2.2.1 y0.1.2.2.2.1)then bif((bJ 4 4)&&((bJ y0.1.2.1 y0.1.2.1)&&((bJ 0 0)&&((bJ y0.1.2.2.2.1 y0.1.2.2.2.1)&&true))))then bz (rG y0.1.1 y0.1.2.1 (bG y0.1.2.2.1 [(4,(y0.1.2.1,(0,(y0.1.2.2.2.1,()))))]) (bC y0.1.2.2.1) y0.1.2.2.2.2.1 [33]) fun y1=>bz (q.q186 y1.1.1 y1.1.2.1 y1.1.2.2.1 y1.1.2.2.2.1 y1.1.2.2.2.2.1) fun y2=>bz (uC q bH (bC y0.1.2.2.1) y0.1.2.2.2.1 y2.1.1 y2.1.2.1 y2.1.2.2.2.1 y2.1.2.2.2.2.1 y2.1.2.2.1) fun y3=>dE y3 (fun a4=>bif(fB a4.2.2.2.2.1 a4.2.1.1.1)then bif(nD (dm a4.2.1.1.1) a4.2.2.2.2.1)then some ((a4.2.2.2.1.1,(a4.2.2.2.1.2.1,((ig a4.2.2.2.2.1 (dm a4.2.1.1.1) ((dA a4.2.2.2.2.1 (0,(0,(0,(0,())))) (dm a4.2.1.1.1)).1,((dA a4.2.2.2.2.1 (0,(0,(0,(0,())))) (dm a4.2.1.1.1)).2.1,(a4.2.2.2.1.2.1,((dA a4.2.2.2.2.1 (0,(0,(0,(0,())))) (dm a4.2.1.1.1)).2.2.2.1,()))))),(a4.2.1.1.2.1,(a4.2.2.2.1.2.2.2.1,()))))),())else none else none) (fun b4=>none)else none else none else none else none else none else none else none else none
noncomputable def agD (q:iq):Env:=gy prog tt [] [(185,2,TZ),(152,600003,akx),(58,600003,jM)] [(185,2,O9 q)] [] [(87,Fq),(88,YC),(115,Dv),(184,Ol),(186,amT q)]
def PP (q:iq) {γ:Type} (a:CX.den->Option γ) (b:EO.den->Option γ) (c:EW.den->Option γ) (v:CX.den):Option γ:=yV q (fun v0 v1 v2 v3 v4 v5 v6=>a ((),((v0,v1,()),(),(),()),((),(v2,v3,v4,v5,()),v6,()))) (fun e0 e1 e2 e3 e4 e5 e6=>b ((),((e0,e1,()),(),(),()),((),(e2,e3,e4,e5,()),e6,()))) (fun r0 r1=>c ((),((r0,r1,()),(),(),()),())) v.2.1.1.1 v.2.1.1.2.1 v.2.2.2.1.1 v.2.2.2.1.2.1 v.2.2.2.1.2.2.1 v.2.2.2.1.2.2.2.1 v.2.2.2.2.1
theorem afa (q:iq):dG (agD q) 185 SA (O9 q):=kW (PP q) (h2:=by intros;simp only[PP,yV,bV,bW,bu,bQ,bY])
theorem ahu (q:iq):dD (agD q) 185 RS:=nJ [SA] (aD (fM (afa q)) aN)
theorem anK (q:iq) (H:H89 q):eu (agD q):=eB aN [185] (aD ⟨f185,RS,by kernel_rfl,by kernel_rfl,ahu q⟩ aN) (hx:=(aD mJ (aD Fv (aD qI (aD sU (aD H.2.2.2.1 aN))))))
def O1:dW:=⟨[0,1,2],[],[],[],[],[]⟩
def asQ (q:iq) (x0:List fU) (x1:Int) (x2:List fZ) (x3 x4:Int):Option BC:=bz (Xp x0 x1 x2 x3 x4) fun y0=>bif y0.2.1 then bz (q.q223 y0.1.1 y0.1.2.1 y0.1.2.2.1 y0.1.2.2.2.1 y0.1.2.2.2.2.1) fun y1=>some ((y1.1.1,(y1.1.2.1,(y1.1.2.2.1,(y1.1.2.2.2.1,(y1.1.2.2.2.2.1,()))))),())else bz (aj1 y0.1.1 y0.1.2.1 y0.1.2.2.1 y0.1.2.2.2.1 y0.1.2.2.2.2.1) fun y1=>bif y1.2.1 then bif(bJ 16 16)then bif(bJ y1.1.2.1 y1.1.2.1)then bif(bJ y1.1.2.2.2.1 y1.1.2.2.2.1)then bif(dO (bG y1.1.2.2.1 [(16,(y1.1.2.1,(0,(y1.1.2.2.2.1,()))))]) 32)then bif(bJ 16 16)then bif(bJ y1.1.2.1 y1.1.2.1)then bif(bJ y1.1.2.2.2.1 y1.1.2.2.2.1)then bif((bJ 16 16)&&((bJ y1.1.2.1 y1.1.2.1)&&((bJ 0 0)&&((bJ y1.1.2.2.2.1 y1.1.2.2.2.1)&&true))))then bz (q.q226 y1.1.1 y1.1.2.1 (bG y1.1.2.2.1 [(16,(y1.1.2.1,(0,(y1.1.2.2.2.1,()))))]) (bC y1.1.2.2.1) (bU .i64 y1.1.2.2.2.2.1 1)) fun y2=>bif(fB y2.1.2.2.1 (bC y1.1.2.2.1))then bif(nD (dm (bC y1.1.2.2.1)) y2.1.2.2.1)then some ((y2.1.1,(y2.1.2.1,((ig y2.1.2.2.1 (dm (bC y1.1.2.2.1)) ((dA y2.1.2.2.1 (0,(0,(0,(0,())))) (dm (bC y1.1.2.2.1))).1,((dA y2.1.2.2.1 (0,(0,(0,(0,())))) (dm (bC y1.1.2.2.1))).2.1,(y2.1.2.1,((dA y2.1.2.2.1 (0,(0,(0,(0,())))) (dm (bC y1.1.2.2.1))).2.2.2.1,()))))),(y1.1.2.2.2.1,((dR .i64 y2.1.2.2.2.2.1 1),()))))),())else none else none else none else none else none else none else none else none else none else none else bz (adO y1.1.1 y1.1.2.1 y1.1.2.2.1 y1.1.2.2.2.1 y1.1.2.2.2.2.1) fun y2=>bif y2.2.1 then bif(bJ 5 5)then bif(bJ y2.1.2.1 y2.1.2.1)then bif(bJ y2.1.2.2.2.1 y2.1.2.2.2.1)then bif(dO (bG y2.1.2.2.1 [(5,(y2.1.2.1,(0,(y2.1.2.2.2.1,()))))]) 32)then bif(bJ 5 5)then bif(bJ y2.1.2.1 y2.1.2.1)then bif(bJ y2.1.2.2.2.1 y2.1.2.2.2.1)then bif((bJ 5 5)&&((bJ y2.1.2.1 y2.1.2.1)&&((bJ 0 0)&&((bJ y2.1.2.2.2.1 y2.1.2.2.2.1)&&true))))then bz (aj2 y2.1.1 y2.1.2.1 (bG y2.1.2.2.1 [(5,(y2.1.2.1,(0,(y2.1.2.2.2.1,()))))]) (bC y2.1.2.2.1) y2.1.2.2.2.2.1) fun y3=>bif(fB y3.1.2.2.1 (bC y2.1.2.2.1))then bif(nD (dm (bC y2.1.2.2.1)) y3.1.2.2.1)then some ((y3.1.1,(y3.1.2.1,((ig y3.1.2.2.1 (dm (bC y2.1.2.2.1)) ((dA y3.1.2.2.1 (0,(0,(0,(0,())))) (dm (bC y2.1.2.2.1))).1,((dA y3.1.2.2.1 (0,(0,(0,(0,())))) (dm (bC y2.1.2.2.1))).2.1,(y3.1.2.1,((dA y3.1.2.2.1 (0,(0,(0,(0,())))) (dm (bC y2.1.2.2.1))).2.2.2.1,()))))),(y2.1.2.2.2.1,(y3.1.2.2.2.2.1,()))))),())else none else none else none else none else none else none else none else none else none else none else bz (yx y2.1.1 y2.1.2.1 y2.1.2.2.1 y2.1.2.2.2.1 y2.1.2.2.2.2.1) fun y3=>some ((y3.1.1,(y3.1.2.1,(y3.1.2.2.1,(y3.1.2.2.2.1,(y3.1.2.2.2.2.1,()))))),())
noncomputable def aD1 (q:iq):Env:=gy prog tt [] [(186,600004,oC),(186,600006,oC),(58,600003,jM),(225,600001,O1)] [] [] [(113,awV),(151,aiT),(184,Ol),(223,ac2 q),(224,axr),(226,amW q),(227,axs)]
theorem anU (q:iq) (H:H89 q):eu (aD1 q):=eB aN [] aN (hx:=(aD Yl (aD Oh (aD sU (aD H.2.2.2.2.2.1 (aD apZ (aD H.2.2.2.2.1 (aD ap0 aN))))))))
def asX (q:iq) (x0:List fU) (x1:Int) (x2:List fZ) (x3 x4:Int):Option BC:=bz (OL x0 x1 x2 x3 x4) fun y0=>bz (rG y0.1.1 y0.1.2.1 y0.1.2.2.1 y0.1.2.2.2.1 y0.1.2.2.2.2.1 [40]) fun y1=>bz (rM y1.1.1 y1.1.2.1 y1.1.2.2.1 y1.1.2.2.2.1 y1.1.2.2.2.2.1 [41]) fun y2=>bz (o5 y2.1.1 y2.1.2.1 y2.1.2.2.1 y2.1.2.2.2.1 y2.1.2.2.2.2.1) fun y3=>bz (Xp y3.1.1 y3.1.2.1 y3.1.2.2.1 y3.1.2.2.2.1 y3.1.2.2.2.2.1) fun y4=>bif y4.2.1 then bz (q.q223 y4.1.1 y4.1.2.1 y4.1.2.2.1 y4.1.2.2.2.1 y4.1.2.2.2.2.1) fun y5=>some ((y5.1.1,(y5.1.2.1,(y5.1.2.2.1,(y5.1.2.2.2.1,(y5.1.2.2.2.2.1,()))))),())else bz (yx y4.1.1 y4.1.2.1 y4.1.2.2.1 y4.1.2.2.2.1 y4.1.2.2.2.2.1) fun y5=>some ((y5.1.1,(y5.1.2.1,(y5.1.2.2.1,(y5.1.2.2.2.1,(y5.1.2.2.2.2.1,()))))),())
noncomputable def aD4 (q:iq):Env:=gy prog tt [] [] [] [] [(87,Fq),(115,Dv),(151,aiT),(184,Ol),(223,ac2 q),(254,ac3),(255,Fj)]
theorem an3 (q:iq) (H:H89 q):eu (aD4 q):=eB aN [] aN (hx:=(aD mJ (aD qI (aD Oh (aD sU (aD H.2.2.2.2.2.1 (aD G6 (aD sV aN))))))))
noncomputable def RV:Code:=(f251.body).getD .skip
noncomputable def nP:Code:=cA (cA (cB (cB (RV))))
def qj:dW:=⟨[0,252000002],[],[],[],[],[]⟩
def auj:dW:=⟨[1,2,3],[],[],[],[],[]⟩
def CZ:SQ:=⟨us [.ptr 1000001 0] 12,[us [.ptr 0 0,.u,.fn 251 [(1000001,0),(2000003,0)],.u,.u,.u,.v cO,.v cO,.u,.u,.u,.u,.u,.u,.u,.u,.u,.u,.u,.u,.u,.u,.u,.u,.u,.u,.u,.u,.u,.u,.u,.u,.u,.u,.u,.u,.u,.fn 251 [(1000001,0),(2000003,0)]] 16,us [.ptr 0 0,.v cO,.fn 251 [(1000001,0),(2000003,0)],.u,.u,.u,.u,.u,.u,.u,.u,.u,.u,.ptr 0 0,.v cO,.fn 251 [(1000001,0),(2000003,0)]] 8,[.u,.ptr 1000001 0,.v cO,.ptr 2000003 0,.u,.u,.u,.u,.u,.u,.u,.u,.u,.u,.u,.u,.u,.u,.u,.u,.u,.u,.u,.u,.u,.u,.u,.u,.ptr 0 0,.v cO,.fn 251 [(1000001,0),(2000003,0)],.u],[.ptr 0 0]],[.box 2000003 1 [.mfn 246 [(0,0)]],.box 1000001 113 [.ptr 0 0],.arr 1 lG,.box 0 115 [.v nK,.v cO,.slc 1,.v cO,.v cO]]⟩
def EQ:SQ:=⟨us [] 13,[us [.ptr 0 0,.u,.fn 251 [(1000001,0),(2000003,0)],.u,.u,.u,.v cO,.v cO,.u,.u,.u,.u,.u,.u,.u,.u,.u,.u,.u,.u,.u,.u,.u,.u,.u,.u,.u,.u,.u,.u,.u,.u,.u,.u,.u,.u,.u,.fn 251 [(1000001,0),(2000003,0)]] 16,us [.ptr 0 0,.v cO,.fn 251 [(1000001,0),(2000003,0)],.u,.u,.u,.u,.u,.u,.u,.u,.u,.u,.ptr 0 0,.v cO,.fn 251 [(1000001,0),(2000003,0)]] 8,[.u,.ptr 1000001 0,.v cO,.ptr 2000003 0,.u,.u,.u,.u,.u,.u,.u,.u,.u,.u,.u,.u,.u,.u,.u,.u,.u,.u,.u,.u,.u,.u,.u,.u,.ptr 0 0,.v cO,.fn 251 [(1000001,0),(2000003,0)],.u],[.ptr 0 0]],[.box 2000003 1 [.mfn 246 [(0,0)]],.box 1000001 113 [.ptr 0 0],.arr 1 lG,.box 0 115 [.v nK,.v cO,.slc 1,.v cO,.v cO]]⟩
def EY:SQ:=⟨us [] 13,[us [.ptr 0 0,.u,.fn 251 [(1000001,0),(2000003,0)],.u,.u,.u,.v cO,.v cO,.u,.u,.u,.u,.u,.u,.u,.u,.u,.u,.u,.u,.u,.u,.u,.u,.u,.u,.u,.u,.u,.u,.u,.u,.u,.u,.u,.u,.u,.fn 251 [(1000001,0),(2000003,0)]] 16,us [.ptr 0 0,.v cO,.fn 251 [(1000001,0),(2000003,0)],.u,.u,.u,.u,.u,.u,.u,.u,.u,.u,.ptr 0 0,.v cO,.fn 251 [(1000001,0),(2000003,0)]] 8,[.u,.ptr 1000001 0,.v cO,.ptr 2000003 0,.u,.u,.u,.u,.u,.u,.u,.u,.u,.u,.u,.u,.u,.u,.u,.u,.u,.u,.u,.u,.u,.u,.u,.u,.ptr 0 0,.v cO,.fn 251 [(1000001,0),(2000003,0)],.u],[.ptr 0 0]],[]⟩
def uJ (q:iq) {γ:Type} (rec kE:Int->Int->Int->Int->Int->Int->(List fZ)->(List fU)->Int->Int->Int->Option γ) (kR:Int->Int->Int->Int->Int->Int->Option γ) (v0 v1 v2 v3 v4 v5:Int) (v6:List fZ) (v7:List fU) (v8 v9 v10:Int):Option γ:=bz (Ar v7 v8 v6 v9 v10) fun y0=>bif y0.2.1 then rec v0 v1 v2 v3 v4 v5 y0.1.2.2.1 y0.1.1 y0.1.2.1 y0.1.2.2.2.1 y0.1.2.2.2.2.1 else kE v0 v1 v2 v3 v4 v5 y0.1.2.2.1 y0.1.1 y0.1.2.1 y0.1.2.2.2.1 y0.1.2.2.2.2.1
def nT (q:iq):Nat->Int->Int->Int->Int->Int->Int->(List fZ)->(List fU)->Int->Int->Int->Option (EQ.den⊕EY.den)
 |0,_,_,_,_,_,_,_,_,_,_,_=>none
 |n+1,v0,v1,v2,v3,v4,v5,v6,v7,v8,v9,v10=>uJ q (nT q n) (fun e0 e1 e2 e3 e4 e5 e6 e7 e8 e9 e10=>some (.inl ((),((e0,e1,()),(e2,e3,()),(e4,e5,()),(),()),((),(),e6,(e7,e8,e9,e10,()),())))) (fun r0 r1 r2 r3 r4 r5=>some (.inr ((),((r0,r1,()),(r2,r3,()),(r4,r5,()),(),()),()))) v0 v1 v2 v3 v4 v5 v6 v7 v8 v9 v10
def aeN (q:iq) (n:Nat) (v:CZ.den):=nT q n v.2.1.1.1 v.2.1.1.2.1 v.2.1.2.1.1 v.2.1.2.1.2.1 v.2.1.2.2.1.1 v.2.1.2.2.1.2.1 v.2.2.2.2.1 v.2.2.2.2.2.1.1 v.2.2.2.2.2.1.2.1 v.2.2.2.2.2.1.2.2.1 v.2.2.2.2.2.1.2.2.2.1
noncomputable def Eu (q:iq):di:=eX qj CZ EQ EY (.exit 0) (aeN q bH) 6
def vM:SQ:=⟨us [.ptr 1000001 0] 12,[us [.ptr 0 0,.u,.fn 251 [(1000001,0),(2000003,0)],.u,.u,.u,.v cO,.v cO,.u,.u,.u,.u,.u,.u,.u,.u,.u,.u,.u,.u,.u,.u,.u,.u,.u,.u,.u,.u,.u,.u,.u,.u,.u,.u,.u,.u,.u,.fn 251 [(1000001,0),(2000003,0)]] 16,us [.ptr 0 0,.v cO,.fn 251 [(1000001,0),(2000003,0)],.u,.u,.u,.u,.u,.u,.u,.u,.u,.u,.ptr 0 0,.v cO,.fn 251 [(1000001,0),(2000003,0)]] 8,[.u,.ptr 1000001 0,.v cO,.ptr 2000003 0,.u,.u,.u,.u,.u,.u,.u,.u,.u,.u,.u,.u,.u,.u,.u,.u,.u,.u,.u,.u,.u,.u,.u,.u,.ptr 0 0,.v cO,.fn 251 [(1000001,0),(2000003,0)],.u],[.ptr 0 0]],[.box 2000003 1 [.mfn 247 [(0,0)]],.box 1000001 113 [.ptr 0 0],.arr 1 lG,.box 0 115 [.v nK,.v cO,.slc 1,.v cO,.v cO]]⟩
def zA:SQ:=⟨us [] 13,[us [.ptr 0 0,.u,.fn 251 [(1000001,0),(2000003,0)],.u,.u,.u,.v cO,.v cO,.u,.u,.u,.u,.u,.u,.u,.u,.u,.u,.u,.u,.u,.u,.u,.u,.u,.u,.u,.u,.u,.u,.u,.u,.u,.u,.u,.u,.u,.fn 251 [(1000001,0),(2000003,0)]] 16,us [.ptr 0 0,.v cO,.fn 251 [(1000001,0),(2000003,0)],.u,.u,.u,.u,.u,.u,.u,.u,.u,.u,.ptr 0 0,.v cO,.fn 251 [(1000001,0),(2000003,0)]] 8,[.u,.ptr 1000001 0,.v cO,.ptr 2000003 0,.u,.u,.u,.u,.u,.u,.u,.u,.u,.u,.u,.u,.u,.u,.u,.u,.u,.u,.u,.u,.u,.u,.u,.u,.ptr 0 0,.v cO,.fn 251 [(1000001,0),(2000003,0)],.u],[.ptr 0 0]],[.box 2000003 1 [.mfn 247 [(0,0)]],.box 1000001 113 [.ptr 0 0],.arr 1 lG,.box 0 115 [.v nK,.v cO,.slc 1,.v cO,.v cO]]⟩
def zH:SQ:=⟨us [] 13,[us [.ptr 0 0,.u,.fn 251 [(1000001,0),(2000003,0)],.u,.u,.u,.v cO,.v cO,.u,.u,.u,.u,.u,.u,.u,.u,.u,.u,.u,.u,.u,.u,.u,.u,.u,.u,.u,.u,.u,.u,.u,.u,.u,.u,.u,.u,.u,.fn 251 [(1000001,0),(2000003,0)]] 16,us [.ptr 0 0,.v cO,.fn 251 [(1000001,0),(2000003,0)],.u,.u,.u,.u,.u,.u,.u,.u,.u,.u,.ptr 0 0,.v cO,.fn 251 [(1000001,0),(2000003,0)]] 8,[.u,.ptr 1000001 0,.v cO,.ptr 2000003 0,.u,.u,.u,.u,.u,.u,.u,.u,.u,.u,.u,.u,.u,.u,.u,.u,.u,.u,.u,.u,.u,.u,.u,.u,.ptr 0 0,.v cO,.fn 251 [(1000001,0),(2000003,0)],.u],[.ptr 0 0]],[]⟩
def pG (q:iq) {γ:Type} (rec kE:Int->Int->Int->Int->Int->Int->(List fZ)->(List fU)->Int->Int->Int->Option γ) (kR:Int->Int->Int->Int->Int->Int->Option γ) (v0 v1 v2 v3 v4 v5:Int) (v6:List fZ) (v7:List fU) (v8 v9 v10:Int):Option γ:=bz (Ar v7 v8 v6 v9 v10) fun y0=>bif y0.2.1 then rec v0 v1 v2 v3 v4 v5 y0.1.2.2.1 y0.1.1 y0.1.2.1 y0.1.2.2.2.1 y0.1.2.2.2.2.1 else kE v0 v1 v2 v3 v4 v5 y0.1.2.2.1 y0.1.1 y0.1.2.1 y0.1.2.2.2.1 y0.1.2.2.2.2.1
def kY (q:iq):Nat->Int->Int->Int->Int->Int->Int->(List fZ)->(List fU)->Int->Int->Int->Option (zA.den⊕zH.den)
 |0,_,_,_,_,_,_,_,_,_,_,_=>none
 |n+1,v0,v1,v2,v3,v4,v5,v6,v7,v8,v9,v10=>pG q (kY q n) (fun e0 e1 e2 e3 e4 e5 e6 e7 e8 e9 e10=>some (.inl ((),((e0,e1,()),(e2,e3,()),(e4,e5,()),(),()),((),(),e6,(e7,e8,e9,e10,()),())))) (fun r0 r1 r2 r3 r4 r5=>some (.inr ((),((r0,r1,()),(r2,r3,()),(r4,r5,()),(),()),()))) v0 v1 v2 v3 v4 v5 v6 v7 v8 v9 v10
def Wj (q:iq) (n:Nat) (v:vM.den):=kY q n v.2.1.1.1 v.2.1.1.2.1 v.2.1.2.1.1 v.2.1.2.1.2.1 v.2.1.2.2.1.1 v.2.1.2.2.1.2.1 v.2.2.2.2.1 v.2.2.2.2.2.1.1 v.2.2.2.2.2.1.2.1 v.2.2.2.2.2.1.2.2.1 v.2.2.2.2.2.1.2.2.2.1
noncomputable def zn (q:iq):di:=eX qj vM zA zH (.exit 0) (Wj q bH) 12
def vN:SQ:=⟨us [.ptr 1000001 0] 12,[us [.ptr 0 0,.u,.fn 251 [(1000001,0),(2000003,0)],.u,.u,.u,.v cO,.v cO,.u,.u,.u,.u,.u,.u,.u,.u,.u,.u,.u,.u,.u,.u,.u,.u,.u,.u,.u,.u,.u,.u,.u,.u,.u,.u,.u,.u,.u,.fn 251 [(1000001,0),(2000003,0)]] 16,us [.ptr 0 0,.v cO,.fn 251 [(1000001,0),(2000003,0)],.u,.u,.u,.u,.u,.u,.u,.u,.u,.u,.ptr 0 0,.v cO,.fn 251 [(1000001,0),(2000003,0)]] 8,[.u,.ptr 1000001 0,.v cO,.ptr 2000003 0,.u,.u,.u,.u,.u,.u,.u,.u,.u,.u,.u,.u,.u,.u,.u,.u,.u,.u,.u,.u,.u,.u,.u,.u,.ptr 0 0,.v cO,.fn 251 [(1000001,0),(2000003,0)],.u],[.ptr 0 0]],[.box 2000003 1 [.mfn 248 [(0,0)]],.box 1000001 113 [.ptr 0 0],.arr 1 lG,.box 0 115 [.v nK,.v cO,.slc 1,.v cO,.v cO]]⟩
def zB:SQ:=⟨us [] 13,[us [.ptr 0 0,.u,.fn 251 [(1000001,0),(2000003,0)],.u,.u,.u,.v cO,.v cO,.u,.u,.u,.u,.u,.u,.u,.u,.u,.u,.u,.u,.u,.u,.u,.u,.u,.u,.u,.u,.u,.u,.u,.u,.u,.u,.u,.u,.u,.fn 251 [(1000001,0),(2000003,0)]] 16,us [.ptr 0 0,.v cO,.fn 251 [(1000001,0),(2000003,0)],.u,.u,.u,.u,.u,.u,.u,.u,.u,.u,.ptr 0 0,.v cO,.fn 251 [(1000001,0),(2000003,0)]] 8,[.u,.ptr 1000001 0,.v cO,.ptr 2000003 0,.u,.u,.u,.u,.u,.u,.u,.u,.u,.u,.u,.u,.u,.u,.u,.u,.u,.u,.u,.u,.u,.u,.u,.u,.ptr 0 0,.v cO,.fn 251 [(1000001,0),(2000003,0)],.u],[.ptr 0 0]],[.box 2000003 1 [.mfn 248 [(0,0)]],.box 1000001 113 [.ptr 0 0],.arr 1 lG,.box 0 115 [.v nK,.v cO,.slc 1,.v cO,.v cO]]⟩
def zI:SQ:=⟨us [] 13,[us [.ptr 0 0,.u,.fn 251 [(1000001,0),(2000003,0)],.u,.u,.u,.v cO,.v cO,.u,.u,.u,.u,.u,.u,.u,.u,.u,.u,.u,.u,.u,.u,.u,.u,.u,.u,.u,.u,.u,.u,.u,.u,.u,.u,.u,.u,.u,.fn 251 [(1000001,0),(2000003,0)]] 16,us [.ptr 0 0,.v cO,.fn 251 [(1000001,0),(2000003,0)],.u,.u,.u,.u,.u,.u,.u,.u,.u,.u,.ptr 0 0,.v cO,.fn 251 [(1000001,0),(2000003,0)]] 8,[.u,.ptr 1000001 0,.v cO,.ptr 2000003 0,.u,.u,.u,.u,.u,.u,.u,.u,.u,.u,.u,.u,.u,.u,.u,.u,.u,.u,.u,.u,.u,.u,.u,.u,.ptr 0 0,.v cO,.fn 251 [(1000001,0),(2000003,0)],.u],[.ptr 0 0]],[]⟩
def pI (q:iq) {γ:Type} (rec kE:Int->Int->Int->Int->Int->Int->(List fZ)->(List fU)->Int->Int->Int->Option γ) (kR:Int->Int->Int->Int->Int->Int->Option γ) (v0 v1 v2 v3 v4 v5:Int) (v6:List fZ) (v7:List fU) (v8 v9 v10:Int):Option γ:=bz (Ar v7 v8 v6 v9 v10) fun y0=>bif y0.2.1 then rec v0 v1 v2 v3 v4 v5 y0.1.2.2.1 y0.1.1 y0.1.2.1 y0.1.2.2.2.1 y0.1.2.2.2.2.1 else kE v0 v1 v2 v3 v4 v5 y0.1.2.2.1 y0.1.1 y0.1.2.1 y0.1.2.2.2.1 y0.1.2.2.2.2.1
def kZ (q:iq):Nat->Int->Int->Int->Int->Int->Int->(List fZ)->(List fU)->Int->Int->Int->Option (zB.den⊕zI.den)
 |0,_,_,_,_,_,_,_,_,_,_,_=>none
 |n+1,v0,v1,v2,v3,v4,v5,v6,v7,v8,v9,v10=>pI q (kZ q n) (fun e0 e1 e2 e3 e4 e5 e6 e7 e8 e9 e10=>some (.inl ((),((e0,e1,()),(e2,e3,()),(e4,e5,()),(),()),((),(),e6,(e7,e8,e9,e10,()),())))) (fun r0 r1 r2 r3 r4 r5=>some (.inr ((),((r0,r1,()),(r2,r3,()),(r4,r5,()),(),()),()))) v0 v1 v2 v3 v4 v5 v6 v7 v8 v9 v10
def Wl (q:iq) (n:Nat) (v:vN.den):=kZ q n v.2.1.1.1 v.2.1.1.2.1 v.2.1.2.1.1 v.2.1.2.1.2.1 v.2.1.2.2.1.1 v.2.1.2.2.1.2.1 v.2.2.2.2.1 v.2.2.2.2.2.1.1 v.2.2.2.2.2.1.2.1 v.2.2.2.2.2.1.2.2.1 v.2.2.2.2.2.1.2.2.2.1
noncomputable def zo (q:iq):di:=eX qj vN zB zI (.exit 0) (Wl q bH) 18
def vO:SQ:=⟨us [.ptr 1000001 0] 12,[us [.ptr 0 0,.u,.fn 251 [(1000001,0),(2000003,0)],.u,.u,.u,.v cO,.v cO,.u,.u,.u,.u,.u,.u,.u,.u,.u,.u,.u,.u,.u,.u,.u,.u,.u,.u,.u,.u,.u,.u,.u,.u,.u,.u,.u,.u,.u,.fn 251 [(1000001,0),(2000003,0)]] 16,us [.ptr 0 0,.v cO,.fn 251 [(1000001,0),(2000003,0)],.u,.u,.u,.u,.u,.u,.u,.u,.u,.u,.ptr 0 0,.v cO,.fn 251 [(1000001,0),(2000003,0)]] 8,[.u,.ptr 1000001 0,.v cO,.ptr 2000003 0,.u,.u,.u,.u,.u,.u,.u,.u,.u,.u,.u,.u,.u,.u,.u,.u,.u,.u,.u,.u,.u,.u,.u,.u,.ptr 0 0,.v cO,.fn 251 [(1000001,0),(2000003,0)],.u],[.ptr 0 0]],[.box 2000003 1 [.mfn 249 [(0,0)]],.box 1000001 113 [.ptr 0 0],.arr 1 lG,.box 0 115 [.v nK,.v cO,.slc 1,.v cO,.v cO]]⟩
def zC:SQ:=⟨us [] 13,[us [.ptr 0 0,.u,.fn 251 [(1000001,0),(2000003,0)],.u,.u,.u,.v cO,.v cO,.u,.u,.u,.u,.u,.u,.u,.u,.u,.u,.u,.u,.u,.u,.u,.u,.u,.u,.u,.u,.u,.u,.u,.u,.u,.u,.u,.u,.u,.fn 251 [(1000001,0),(2000003,0)]] 16,us [.ptr 0 0,.v cO,.fn 251 [(1000001,0),(2000003,0)],.u,.u,.u,.u,.u,.u,.u,.u,.u,.u,.ptr 0 0,.v cO,.fn 251 [(1000001,0),(2000003,0)]] 8,[.u,.ptr 1000001 0,.v cO,.ptr 2000003 0,.u,.u,.u,.u,.u,.u,.u,.u,.u,.u,.u,.u,.u,.u,.u,.u,.u,.u,.u,.u,.u,.u,.u,.u,.ptr 0 0,.v cO,.fn 251 [(1000001,0),(2000003,0)],.u],[.ptr 0 0]],[.box 2000003 1 [.mfn 249 [(0,0)]],.box 1000001 113 [.ptr 0 0],.arr 1 lG,.box 0 115 [.v nK,.v cO,.slc 1,.v cO,.v cO]]⟩
def zJ:SQ:=⟨us [] 13,[us [.ptr 0 0,.u,.fn 251 [(1000001,0),(2000003,0)],.u,.u,.u,.v cO,.v cO,.u,.u,.u,.u,.u,.u,.u,.u,.u,.u,.u,.u,.u,.u,.u,.u,.u,.u,.u,.u,.u,.u,.u,.u,.u,.u,.u,.u,.u,.fn 251 [(1000001,0),(2000003,0)]] 16,us [.ptr 0 0,.v cO,.fn 251 [(1000001,0),(2000003,0)],.u,.u,.u,.u,.u,.u,.u,.u,.u,.u,.ptr 0 0,.v cO,.fn 251 [(1000001,0),(2000003,0)]] 8,[.u,.ptr 1000001 0,.v cO,.ptr 2000003 0,.u,.u,.u,.u,.u,.u,.u,.u,.u,.u,.u,.u,.u,.u,.u,.u,.u,.u,.u,.u,.u,.u,.u,.u,.ptr 0 0,.v cO,.fn 251 [(1000001,0),(2000003,0)],.u],[.ptr 0 0]],[]⟩
def pJ (q:iq) {γ:Type} (rec kE:Int->Int->Int->Int->Int->Int->(List fZ)->(List fU)->Int->Int->Int->Option γ) (kR:Int->Int->Int->Int->Int->Int->Option γ) (v0 v1 v2 v3 v4 v5:Int) (v6:List fZ) (v7:List fU) (v8 v9 v10:Int):Option γ:=bz (Ar v7 v8 v6 v9 v10) fun y0=>bif y0.2.1 then rec v0 v1 v2 v3 v4 v5 y0.1.2.2.1 y0.1.1 y0.1.2.1 y0.1.2.2.2.1 y0.1.2.2.2.2.1 else kE v0 v1 v2 v3 v4 v5 y0.1.2.2.1 y0.1.1 y0.1.2.1 y0.1.2.2.2.1 y0.1.2.2.2.2.1
def lg (q:iq):Nat->Int->Int->Int->Int->Int->Int->(List fZ)->(List fU)->Int->Int->Int->Option (zC.den⊕zJ.den)
 |0,_,_,_,_,_,_,_,_,_,_,_=>none
 |n+1,v0,v1,v2,v3,v4,v5,v6,v7,v8,v9,v10=>pJ q (lg q n) (fun e0 e1 e2 e3 e4 e5 e6 e7 e8 e9 e10=>some (.inl ((),((e0,e1,()),(e2,e3,()),(e4,e5,()),(),()),((),(),e6,(e7,e8,e9,e10,()),())))) (fun r0 r1 r2 r3 r4 r5=>some (.inr ((),((r0,r1,()),(r2,r3,()),(r4,r5,()),(),()),()))) v0 v1 v2 v3 v4 v5 v6 v7 v8 v9 v10
def Wn (q:iq) (n:Nat) (v:vO.den):=lg q n v.2.1.1.1 v.2.1.1.2.1 v.2.1.2.1.1 v.2.1.2.1.2.1 v.2.1.2.2.1.1 v.2.1.2.2.1.2.1 v.2.2.2.2.1 v.2.2.2.2.2.1.1 v.2.2.2.2.2.1.2.1 v.2.2.2.2.2.1.2.2.1 v.2.2.2.2.2.1.2.2.2.1
noncomputable def zq (q:iq):di:=eX qj vO zC zJ (.exit 0) (Wn q bH) 24
def vP:SQ:=⟨us [.ptr 1000001 0] 12,[us [.ptr 0 0,.u,.fn 251 [(1000001,0),(2000003,0)],.u,.u,.u,.v cO,.v cO,.u,.u,.u,.u,.u,.u,.u,.u,.u,.u,.u,.u,.u,.u,.u,.u,.u,.u,.u,.u,.u,.u,.u,.u,.u,.u,.u,.u,.u,.fn 251 [(1000001,0),(2000003,0)]] 16,us [.ptr 0 0,.v cO,.fn 251 [(1000001,0),(2000003,0)],.u,.u,.u,.u,.u,.u,.u,.u,.u,.u,.ptr 0 0,.v cO,.fn 251 [(1000001,0),(2000003,0)]] 8,[.u,.ptr 1000001 0,.v cO,.ptr 2000003 0,.u,.u,.u,.u,.u,.u,.u,.u,.u,.u,.u,.u,.u,.u,.u,.u,.u,.u,.u,.u,.u,.u,.u,.u,.ptr 0 0,.v cO,.fn 251 [(1000001,0),(2000003,0)],.u],[.ptr 0 0]],[.box 2000003 1 [.mfn 250 [(0,0)]],.box 1000001 113 [.ptr 0 0],.arr 1 lG,.box 0 115 [.v nK,.v cO,.slc 1,.v cO,.v cO]]⟩
def zD:SQ:=⟨us [] 13,[us [.ptr 0 0,.u,.fn 251 [(1000001,0),(2000003,0)],.u,.u,.u,.v cO,.v cO,.u,.u,.u,.u,.u,.u,.u,.u,.u,.u,.u,.u,.u,.u,.u,.u,.u,.u,.u,.u,.u,.u,.u,.u,.u,.u,.u,.u,.u,.fn 251 [(1000001,0),(2000003,0)]] 16,us [.ptr 0 0,.v cO,.fn 251 [(1000001,0),(2000003,0)],.u,.u,.u,.u,.u,.u,.u,.u,.u,.u,.ptr 0 0,.v cO,.fn 251 [(1000001,0),(2000003,0)]] 8,[.u,.ptr 1000001 0,.v cO,.ptr 2000003 0,.u,.u,.u,.u,.u,.u,.u,.u,.u,.u,.u,.u,.u,.u,.u,.u,.u,.u,.u,.u,.u,.u,.u,.u,.ptr 0 0,.v cO,.fn 251 [(1000001,0),(2000003,0)],.u],[.ptr 0 0]],[.box 2000003 1 [.mfn 250 [(0,0)]],.box 1000001 113 [.ptr 0 0],.arr 1 lG,.box 0 115 [.v nK,.v cO,.slc 1,.v cO,.v cO]]⟩
def zK:SQ:=⟨us [] 13,[us [.ptr 0 0,.u,.fn 251 [(1000001,0),(2000003,0)],.u,.u,.u,.v cO,.v cO,.u,.u,.u,.u,.u,.u,.u,.u,.u,.u,.u,.u,.u,.u,.u,.u,.u,.u,.u,.u,.u,.u,.u,.u,.u,.u,.u,.u,.u,.fn 251 [(1000001,0),(2000003,0)]] 16,us [.ptr 0 0,.v cO,.fn 251 [(1000001,0),(2000003,0)],.u,.u,.u,.u,.u,.u,.u,.u,.u,.u,.ptr 0 0,.v cO,.fn 251 [(1000001,0),(2000003,0)]] 8,[.u,.ptr 1000001 0,.v cO,.ptr 2000003 0,.u,.u,.u,.u,.u,.u,.u,.u,.u,.u,.u,.u,.u,.u,.u,.u,.u,.u,.u,.u,.u,.u,.u,.u,.ptr 0 0,.v cO,.fn 251 [(1000001,0),(2000003,0)],.u],[.ptr 0 0]],[]⟩
def pK (q:iq) {γ:Type} (rec kE:Int->Int->Int->Int->Int->Int->(List fZ)->(List fU)->Int->Int->Int->Option γ) (kR:Int->Int->Int->Int->Int->Int->Option γ) (v0 v1 v2 v3 v4 v5:Int) (v6:List fZ) (v7:List fU) (v8 v9 v10:Int):Option γ:=bz (Ar v7 v8 v6 v9 v10) fun y0=>bif y0.2.1 then rec v0 v1 v2 v3 v4 v5 y0.1.2.2.1 y0.1.1 y0.1.2.1 y0.1.2.2.2.1 y0.1.2.2.2.2.1 else kE v0 v1 v2 v3 v4 v5 y0.1.2.2.1 y0.1.1 y0.1.2.1 y0.1.2.2.2.1 y0.1.2.2.2.2.1
def lm (q:iq):Nat->Int->Int->Int->Int->Int->Int->(List fZ)->(List fU)->Int->Int->Int->Option (zD.den⊕zK.den)
 |0,_,_,_,_,_,_,_,_,_,_,_=>none
 |n+1,v0,v1,v2,v3,v4,v5,v6,v7,v8,v9,v10=>pK q (lm q n) (fun e0 e1 e2 e3 e4 e5 e6 e7 e8 e9 e10=>some (.inl ((),((e0,e1,()),(e2,e3,()),(e4,e5,()),(),()),((),(),e6,(e7,e8,e9,e10,()),())))) (fun r0 r1 r2 r3 r4 r5=>some (.inr ((),((r0,r1,()),(r2,r3,()),(r4,r5,()),(),()),()))) v0 v1 v2 v3 v4 v5 v6 v7 v8 v9 v10
def Wp (q:iq) (n:Nat) (v:vP.den):=lm q n v.2.1.1.1 v.2.1.1.2.1 v.2.1.2.1.1 v.2.1.2.1.2.1 v.2.1.2.2.1.1 v.2.1.2.2.1.2.1 v.2.2.2.2.1 v.2.2.2.2.2.1.1 v.2.2.2.2.2.1.2.1 v.2.2.2.2.2.1.2.2.1 v.2.2.2.2.2.1.2.2.2.1
noncomputable def zt (q:iq):di:=eX qj vP zD zK (.exit 0) (Wp q bH) 30
def vS:SQ:=⟨us [.ptr 1000001 0] 12,[us [.ptr 0 0,.u,.fn 251 [(1000001,0),(2000003,0)],.u,.u,.u,.v cO,.v cO,.u,.u,.u,.u,.u,.u,.u,.u,.u,.u,.u,.u,.u,.u,.u,.u,.u,.u,.u,.u,.u,.u,.u,.u,.u,.u,.u,.u,.u,.fn 251 [(1000001,0),(2000003,0)]] 16,us [.ptr 0 0,.v cO,.fn 251 [(1000001,0),(2000003,0)],.u,.u,.u,.u,.u,.u,.u,.u,.u,.u,.ptr 0 0,.v cO,.fn 251 [(1000001,0),(2000003,0)]] 8,[.u,.ptr 1000001 0,.v cO,.ptr 2000003 0,.u,.u,.u,.u,.u,.u,.u,.u,.u,.u,.u,.u,.u,.u,.u,.u,.u,.u,.u,.u,.u,.u,.u,.u,.ptr 0 0,.v cO,.fn 251 [(1000001,0),(2000003,0)],.u],[.ptr 0 0]],[.box 2000003 1 [.mfn 245 [(0,0)]],.box 1000001 113 [.ptr 0 0],.arr 1 lG,.box 0 115 [.v nK,.v cO,.slc 1,.v cO,.v cO]]⟩
def zF:SQ:=⟨us [] 13,[us [.ptr 0 0,.u,.fn 251 [(1000001,0),(2000003,0)],.u,.u,.u,.v cO,.v cO,.u,.u,.u,.u,.u,.u,.u,.u,.u,.u,.u,.u,.u,.u,.u,.u,.u,.u,.u,.u,.u,.u,.u,.u,.u,.u,.u,.u,.u,.fn 251 [(1000001,0),(2000003,0)]] 16,us [.ptr 0 0,.v cO,.fn 251 [(1000001,0),(2000003,0)],.u,.u,.u,.u,.u,.u,.u,.u,.u,.u,.ptr 0 0,.v cO,.fn 251 [(1000001,0),(2000003,0)]] 8,[.u,.ptr 1000001 0,.v cO,.ptr 2000003 0,.u,.u,.u,.u,.u,.u,.u,.u,.u,.u,.u,.u,.u,.u,.u,.u,.u,.u,.u,.u,.u,.u,.u,.u,.ptr 0 0,.v cO,.fn 251 [(1000001,0),(2000003,0)],.u],[.ptr 0 0]],[.box 2000003 1 [.mfn 245 [(0,0)]],.box 1000001 113 [.ptr 0 0],.arr 1 lG,.box 0 115 [.v nK,.v cO,.slc 1,.v cO,.v cO]]⟩
def zL:SQ:=⟨us [] 13,[us [.ptr 0 0,.u,.fn 251 [(1000001,0),(2000003,0)],.u,.u,.u,.v cO,.v cO,.u,.u,.u,.u,.u,.u,.u,.u,.u,.u,.u,.u,.u,.u,.u,.u,.u,.u,.u,.u,.u,.u,.u,.u,.u,.u,.u,.u,.u,.fn 251 [(1000001,0),(2000003,0)]] 16,us [.ptr 0 0,.v cO,.fn 251 [(1000001,0),(2000003,0)],.u,.u,.u,.u,.u,.u,.u,.u,.u,.u,.ptr 0 0,.v cO,.fn 251 [(1000001,0),(2000003,0)]] 8,[.u,.ptr 1000001 0,.v cO,.ptr 2000003 0,.u,.u,.u,.u,.u,.u,.u,.u,.u,.u,.u,.u,.u,.u,.u,.u,.u,.u,.u,.u,.u,.u,.u,.u,.ptr 0 0,.v cO,.fn 251 [(1000001,0),(2000003,0)],.u],[.ptr 0 0]],[]⟩
def pM (q:iq) {γ:Type} (rec kE:Int->Int->Int->Int->Int->Int->(List fZ)->(List fU)->Int->Int->Int->Option γ) (kR:Int->Int->Int->Int->Int->Int->Option γ) (v0 v1 v2 v3 v4 v5:Int) (v6:List fZ) (v7:List fU) (v8 v9 v10:Int):Option γ:=bz (Ar v7 v8 v6 v9 v10) fun y0=>bif y0.2.1 then rec v0 v1 v2 v3 v4 v5 y0.1.2.2.1 y0.1.1 y0.1.2.1 y0.1.2.2.2.1 y0.1.2.2.2.2.1 else kE v0 v1 v2 v3 v4 v5 y0.1.2.2.1 y0.1.1 y0.1.2.1 y0.1.2.2.2.1 y0.1.2.2.2.2.1
def lq (q:iq):Nat->Int->Int->Int->Int->Int->Int->(List fZ)->(List fU)->Int->Int->Int->Option (zF.den⊕zL.den)
 |0,_,_,_,_,_,_,_,_,_,_,_=>none
 |n+1,v0,v1,v2,v3,v4,v5,v6,v7,v8,v9,v10=>pM q (lq q n) (fun e0 e1 e2 e3 e4 e5 e6 e7 e8 e9 e10=>some (.inl ((),((e0,e1,()),(e2,e3,()),(e4,e5,()),(),()),((),(),e6,(e7,e8,e9,e10,()),())))) (fun r0 r1 r2 r3 r4 r5=>some (.inr ((),((r0,r1,()),(r2,r3,()),(r4,r5,()),(),()),()))) v0 v1 v2 v3 v4 v5 v6 v7 v8 v9 v10
def Wq (q:iq) (n:Nat) (v:vS.den):=lq q n v.2.1.1.1 v.2.1.1.2.1 v.2.1.2.1.1 v.2.1.2.1.2.1 v.2.1.2.2.1.1 v.2.1.2.2.1.2.1 v.2.2.2.2.1 v.2.2.2.2.2.1.1 v.2.2.2.2.2.1.2.1 v.2.2.2.2.2.1.2.2.1 v.2.2.2.2.2.1.2.2.2.1
noncomputable def zu (q:iq):di:=eX qj vS zF zL (.exit 0) (Wq q bH) 36
def Am (q:iq) (x0:List fU) (x1:Int) (x2:List fZ) (x3 x4:Int):Option BC:=bz (bif(bJ 9 9)then(bif((((bJ 9 9)&&true)&&(((nH lG x2 x2)&&(((nH tyD x0 x0)&&((bJ x1 x1)&&((bJ x3 x3)&&((bJ x4 x4)&&true))))&&true))&&true))&&true)then(some ())else(none))else(none)) fun y0=>bz (yl x0 x1 x2 x3 x4 0) fun y1=>bif(bJ y1.2.1 40)then bif(bJ 10 10)then bif(bJ y1.1.2.1 y1.1.2.1)then bif(bJ y1.1.2.2.2.1 y1.1.2.2.2.1)then bif(dO (bG y1.1.2.2.1 [(10,(y1.1.2.1,(0,(y1.1.2.2.2.1,()))))]) 32)then bif(bJ 10 10)then bif(bJ y1.1.2.1 y1.1.2.1)then bif(bJ y1.1.2.2.2.1 y1.1.2.2.2.1)then bif((bJ 10 10)&&((bJ y1.1.2.1 y1.1.2.1)&&((bJ 0 0)&&((bJ y1.1.2.2.2.1 y1.1.2.2.2.1)&&true))))then bz (q.q246 y1.1.1 (bU .i64 y1.1.2.1 1) (bG y1.1.2.2.1 [(10,(y1.1.2.1,(0,(y1.1.2.2.2.1,()))))]) (bC y1.1.2.2.1) (bU .i64 y1.1.2.2.2.2.1 1)) fun y2=>bz (nT q bH (bC y1.1.2.2.1) y1.1.2.2.2.1 10 10 10 10 y2.1.2.2.1 y2.1.1 y2.1.2.1 y2.1.2.2.2.1 y2.1.2.2.2.2.1) fun y3=>dE y3 (fun a4=>bif(fB a4.2.2.2.2.1 a4.2.1.1.1)then bif(nD (dm a4.2.1.1.1) a4.2.2.2.2.1)then some ((a4.2.2.2.2.2.1.1,(a4.2.2.2.2.2.1.2.1,((ig a4.2.2.2.2.1 (dm a4.2.1.1.1) ((dA a4.2.2.2.2.1 (0,(0,(0,(0,())))) (dm a4.2.1.1.1)).1,((dA a4.2.2.2.2.1 (0,(0,(0,(0,())))) (dm a4.2.1.1.1)).2.1,(a4.2.2.2.2.2.1.2.1,((dA a4.2.2.2.2.1 (0,(0,(0,(0,())))) (dm a4.2.1.1.1)).2.2.2.1,()))))),(a4.2.1.1.2.1,((dR .i64 a4.2.2.2.2.2.1.2.2.2.1 1),()))))),())else none else none) (fun b4=>none)else none else none else none else none else none else none else none else none else bif(bJ y1.2.1 105)then bif(bJ 11 11)then bif(bJ y1.1.2.1 y1.1.2.1)then bif(bJ y1.1.2.2.2.1 y1.1.2.2.2.1)then bif(dO (bG y1.1.2.2.1 [(11,(y1.1.2.1,(0,(y1.1.2.2.2.1,()))))]) 32)then bif(bJ 11 11)then bif(bJ y1.1.2.1 y1.1.2.1)then bif(bJ y1.1.2.2.2.1 y1.1.2.2.2.1)then bif((bJ 11 11)&&((bJ y1.1.2.1 y1.1.2.1)&&((bJ 0 0)&&((bJ y1.1.2.2.2.1 y1.1.2.2.2.1)&&true))))then bz (q.q247 y1.1.1 (bU .i64 y1.1.2.1 1) (bG y1.1.2.2.1 [(11,(y1.1.2.1,(0,(y1.1.2.2.2.1,()))))]) (bC y1.1.2.2.1) (bU .i64 y1.1.2.2.2.2.1 1)) fun y2=>bz (kY q bH (bC y1.1.2.2.1) y1.1.2.2.2.1 11 11 11 11 y2.1.2.2.1 y2.1.1 y2.1.2.1 y2.1.2.2.2.1 y2.1.2.2.2.2.1) fun y3=>dE y3 (fun a4=>bif(fB a4.2.2.2.2.1 a4.2.1.1.1)then bif(nD (dm a4.2.1.1.1) a4.2.2.2.2.1)then some ((a4.2.2.2.2.2.1.1,(a4.2.2.2.2.2.1.2.1,((ig a4.2.2.2.2.1 (dm a4.2.1.1.1) ((dA a4.2.2.2.2.1 (0,(0,(0,(0,())))) (dm a4.2.1.1.1)).1,((dA a4.2.2.2.2.1 (0,(0,(0,(0,())))) (dm a4.2.1.1.1)).2.1,(a4.2.2.2.2.2.1.2.1,((dA a4.2.2.2.2.1 (0,(0,(0,(0,())))) (dm a4.2.1.1.1)).2.2.2.1,()))))),(a4.2.1.1.2.1,((dR .i64 a4.2.2.2.2.2.1.2.2.2.1 1),()))))),())else none else none) (fun b4=>none)else none else none else none else none else none else none else none else none else bif(bJ y1.2.1 119)then bif(bJ 12 12)then bif(bJ y1.1.2.1 y1.1.2.1)then bif(bJ y1.1.2.2.2.1 y1.1.2.2.2.1)then bif(dO (bG y1.1.2.2.1 [(12,(y1.1.2.1,(0,(y1.1.2.2.2.1,()))))]) 32)then bif(bJ 12 12)then bif(bJ y1.1.2.1 y1.1.2.1)then bif(bJ y1.1.2.2.2.1 y1.1.2.2.2.1)then bif((bJ 12 12)&&((bJ y1.1.2.1 y1.1.2.1)&&((bJ 0 0)&&((bJ y1.1.2.2.2.1 y1.1.2.2.2.1)&&true))))then bz (q.q248 y1.1.1 (bU .i64 y1.1.2.1 1) (bG y1.1.2.2.1 [(12,(y1.1.2.1,(0,(y1.1.2.2.2.1,()))))]) (bC y1.1.2.2.1) (bU .i64 y1.1.2.2.2.2.1 1)) fun y2=>bz (kZ q bH (bC y1.1.2.2.1) y1.1.2.2.2.1 12 12 12 12 y2.1.2.2.1 y2.1.1 y2.1.2.1 y2.1.2.2.2.1 y2.1.2.2.2.2.1) fun y3=>dE y3 (fun a4=>bif(fB a4.2.2.2.2.1 a4.2.1.1.1)then bif(nD (dm a4.2.1.1.1) a4.2.2.2.2.1)then some ((a4.2.2.2.2.2.1.1,(a4.2.2.2.2.2.1.2.1,((ig a4.2.2.2.2.1 (dm a4.2.1.1.1) ((dA a4.2.2.2.2.1 (0,(0,(0,(0,())))) (dm a4.2.1.1.1)).1,((dA a4.2.2.2.2.1 (0,(0,(0,(0,())))) (dm a4.2.1.1.1)).2.1,(a4.2.2.2.2.2.1.2.1,((dA a4.2.2.2.2.1 (0,(0,(0,(0,())))) (dm a4.2.1.1.1)).2.2.2.1,()))))),(a4.2.1.1.2.1,((dR .i64 a4.2.2.2.2.2.1.2.2.2.1 1),()))))),())else none else none) (fun b4=>none)else none else none else none else none else none else none else none else none else bif(bJ y1.2.1 114)then bif(bJ 13 13)then bif(bJ y1.1.2.1 y1.1.2.1)then bif(bJ y1.1.2.2.2.1 y1.1.2.2.2.1)then bif(dO (bG y1.1.2.2.1 [(13,(y1.1.2.1,(0,(y1.1.2.2.2.1,()))))]) 32)then bif(bJ 13 13)then bif(bJ y1.1.2.1 y1.1.2.1)then bif(bJ y1.1.2.2.2.1 y1.1.2.2.2.1)then bif((bJ 13 13)&&((bJ y1.1.2.1 y1.1.2.1)&&((bJ 0 0)&&((bJ y1.1.2.2.2.1 y1.1.2.2.2.1)&&true))))then bz (q.q249 y1.1.1 (bU .i64 y1.1.2.1 1) (bG y1.1.2.2.1 [(13,(y1.1.2.1,(0,(y1.1.2.2.2.1,()))))]) (bC y1.1.2.2.1) (bU .i64 y1.1.2.2.2.2.1 1)) fun y2=>bz (lg q bH (bC y1.1.2.2.1) y1.1.2.2.2.1 13 13 13 13 y2.1.2.2.1 y2.1.1 y2.1.2.1 y2.1.2.2.2.1 y2.1.2.2.2.2.1) fun y3=>dE y3 (fun a4=>bif(fB a4.2.2.2.2.1 a4.2.1.1.1)then bif(nD (dm a4.2.1.1.1) a4.2.2.2.2.1)then some ((a4.2.2.2.2.2.1.1,(a4.2.2.2.2.2.1.2.1,((ig a4.2.2.2.2.1 (dm a4.2.1.1.1) ((dA a4.2.2.2.2.1 (0,(0,(0,(0,())))) (dm a4.2.1.1.1)).1,((dA a4.2.2.2.2.1 (0,(0,(0,(0,())))) (dm a4.2.1.1.1)).2.1,(a4.2.2.2.2.2.1.2.1,((dA a4.2.2.2.2.1 (0,(0,(0,(0,())))) (dm a4.2.1.1.1)).2.2.2.1,()))))),(a4.2.1.1.2.1,((dR .i64 a4.2.2.2.2.2.1.2.2.2.1 1),()))))),())else none else none) (fun b4=>none)else none else none else none else none else none else none else none else none else bif(bJ y1.2.1 99)then bif(bJ 14 14)then bif(bJ y1.1.2.1 y1.1.2.1)then bif(bJ y1.1.2.2.2.1 y1.1.2.2.2.1)then bif(dO (bG y1.1.2.2.1 [(14,(y1.1.2.1,(0,(y1.1.2.2.2.1,()))))]) 32)then bif(bJ 14 14)then bif(bJ y1.1.2.1 y1.1.2.1)then bif(bJ y1.1.2.2.2.1 y1.1.2.2.2.1)then bif((bJ 14 14)&&((bJ y1.1.2.1 y1.1.2.1)&&((bJ 0 0)&&((bJ y1.1.2.2.2.1 y1.1.2.2.2.1)&&true))))then bz (q.q250 y1.1.1 (bU .i64 y1.1.2.1 1) (bG y1.1.2.2.1 [(14,(y1.1.2.1,(0,(y1.1.2.2.2.1,()))))]) (bC y1.1.2.2.1) (bU .i64 y1.1.2.2.2.2.1 1)) fun y2=>bz (lm q bH (bC y1.1.2.2.1) y1.1.2.2.2.1 14 14 14 14 y2.1.2.2.1 y2.1.1 y2.1.2.1 y2.1.2.2.2.1 y2.1.2.2.2.2.1) fun y3=>dE y3 (fun a4=>bif(fB a4.2.2.2.2.1 a4.2.1.1.1)then bif(nD (dm a4.2.1.1.1) a4.2.2.2.2.1)then some ((a4.2.2.2.2.2.1.1,(a4.2.2.2.2.2.1.2.1,((ig a4.2.2.2.2.1 (dm a4.2.1.1.1) ((dA a4.2.2.2.2.1 (0,(0,(0,(0,())))) (dm a4.2.1.1.1)).1,((dA a4.2.2.2.2.1 (0,(0,(0,(0,())))) (dm a4.2.1.1.1)).2.1,(a4.2.2.2.2.2.1.2.1,((dA a4.2.2.2.2.1 (0,(0,(0,(0,())))) (dm a4.2.1.1.1)).2.2.2.1,()))))),(a4.2.1.1.2.1,((dR .i64 a4.2.2.2.2.2.1.2.2.2.1 1),()))))),())else none else none) (fun b4=>none)else none else none else none else none else none else none else none else none else bif(bJ 9 9)then bif(bJ y1.1.2.1 y1.1.2.1)then bif(bJ y1.1.2.2.2.1 y1.1.2.2.2.1)then bif(dO (bG y1.1.2.2.1 [(9,(y1.1.2.1,(0,(y1.1.2.2.2.1,()))))]) 32)then bif(bJ 9 9)then bif(bJ y1.1.2.1 y1.1.2.1)then bif(bJ y1.1.2.2.2.1 y1.1.2.2.2.1)then bif((bJ 9 9)&&((bJ y1.1.2.1 y1.1.2.1)&&((bJ 0 0)&&((bJ y1.1.2.2.2.1 y1.1.2.2.2.1)&&true))))then bz (q.q245 y1.1.1 (bU .i64 y1.1.2.1 1) (bG y1.1.2.2.1 [(9,(y1.1.2.1,(0,(y1.1.2.2.2.1,()))))]) (bC y1.1.2.2.1) (bU .i64 y1.1.2.2.2.2.1 1)) fun y2=>bz (lq q bH (bC y1.1.2.2.1) y1.1.2.2.2.1 9 9 9 9 y2.1.2.2.1 y2.1.1 y2.1.2.1 y2.1.2.2.2.1 y2.1.2.2.2.2.1) fun y3=>dE y3 (fun a4=>bif(fB a4.2.2.2.2.1 a4.2.1.1.1)then bif(nD (dm a4.2.1.1.1) a4.2.2.2.2.1)then some ((a4.2.2.2.2.2.1.1,(a4.2.2.2.2.2.1.2.1,((ig a4.2.2.2.2.1 (dm a4.2.1.1.1) ((dA a4.2.2.2.2.1 (0,(0,(0,(0,())))) (dm a4.2.1.1.1)).1,((dA a4.2.2.2.2.1 (0,(0,(0,(0,())))) (dm a4.2.1.1.1)).2.1,(a4.2.2.2.2.2.1.2.1,((dA a4.2.2.2.2.1 (0,(0,(0,(0,())))) (dm a4.2.1.1.1)).2.2.2.1,()))))),(a4.2.1.1.2.1,((dR .i64 a4.2.2.2.2.2.1.2.2.2.1 1),()))))),())else none else none) (fun b4=>none)else none else none else none else none else none else none else none else none
noncomputable def BN (q:iq):Env:=gy prog tt [] [(251,2,qj),(223,600013,auj),(225,600001,O1),(58,600003,jM),(251,600001,pY)] [(251,2,mW (Eu q) (mW (zn q) (mW (zo q) (mW (zq q) (mW (zt q) ((zu q)))))))] [] [(112,aiQ),(245,amX q),(246,amY q),(247,amZ q),(248,am0 q),(249,am1 q),(250,am2 q),(252,aiW)]
def PS (q:iq) {γ:Type} (a:CZ.den->Option γ) (b:EQ.den->Option γ) (c:EY.den->Option γ) (v:CZ.den):Option γ:=uJ q (fun v0 v1 v2 v3 v4 v5 v6 v7 v8 v9 v10=>a ((),((v0,v1,()),(v2,v3,()),(v4,v5,()),(),()),((),(),v6,(v7,v8,v9,v10,()),()))) (fun e0 e1 e2 e3 e4 e5 e6 e7 e8 e9 e10=>b ((),((e0,e1,()),(e2,e3,()),(e4,e5,()),(),()),((),(),e6,(e7,e8,e9,e10,()),()))) (fun r0 r1 r2 r3 r4 r5=>c ((),((r0,r1,()),(r2,r3,()),(r4,r5,()),(),()),())) v.2.1.1.1 v.2.1.1.2.1 v.2.1.2.1.1 v.2.1.2.1.2.1 v.2.1.2.2.1.1 v.2.1.2.2.1.2.1 v.2.2.2.2.1 v.2.2.2.2.2.1.1 v.2.2.2.2.2.1.2.1 v.2.2.2.2.2.1.2.2.1 v.2.2.2.2.2.1.2.2.2.1
theorem afc (q:iq):dG (BN q) 251 nP (Eu q):=kW (PS q) (h2:=by intros;simp only[PS,uJ,bV,bW,bu,bQ,bY])
def Ic (q:iq) {γ:Type} (a:vM.den->Option γ) (b:zA.den->Option γ) (c:zH.den->Option γ) (v:vM.den):Option γ:=pG q (fun v0 v1 v2 v3 v4 v5 v6 v7 v8 v9 v10=>a ((),((v0,v1,()),(v2,v3,()),(v4,v5,()),(),()),((),(),v6,(v7,v8,v9,v10,()),()))) (fun e0 e1 e2 e3 e4 e5 e6 e7 e8 e9 e10=>b ((),((e0,e1,()),(e2,e3,()),(e4,e5,()),(),()),((),(),e6,(e7,e8,e9,e10,()),()))) (fun r0 r1 r2 r3 r4 r5=>c ((),((r0,r1,()),(r2,r3,()),(r4,r5,()),(),()),())) v.2.1.1.1 v.2.1.1.2.1 v.2.1.2.1.1 v.2.1.2.1.2.1 v.2.1.2.2.1.1 v.2.1.2.2.1.2.1 v.2.2.2.2.1 v.2.2.2.2.2.1.1 v.2.2.2.2.2.1.2.1 v.2.2.2.2.2.1.2.2.1 v.2.2.2.2.2.1.2.2.2.1
theorem Wy (q:iq):dG (BN q) 251 nP (zn q):=kW (Ic q) (h2:=by intros;simp only[Ic,pG,bV,bW,bu,bQ,bY])
def Ie (q:iq) {γ:Type} (a:vN.den->Option γ) (b:zB.den->Option γ) (c:zI.den->Option γ) (v:vN.den):Option γ:=pI q (fun v0 v1 v2 v3 v4 v5 v6 v7 v8 v9 v10=>a ((),((v0,v1,()),(v2,v3,()),(v4,v5,()),(),()),((),(),v6,(v7,v8,v9,v10,()),()))) (fun e0 e1 e2 e3 e4 e5 e6 e7 e8 e9 e10=>b ((),((e0,e1,()),(e2,e3,()),(e4,e5,()),(),()),((),(),e6,(e7,e8,e9,e10,()),()))) (fun r0 r1 r2 r3 r4 r5=>c ((),((r0,r1,()),(r2,r3,()),(r4,r5,()),(),()),())) v.2.1.1.1 v.2.1.1.2.1 v.2.1.2.1.1 v.2.1.2.1.2.1 v.2.1.2.2.1.1 v.2.1.2.2.1.2.1 v.2.2.2.2.1 v.2.2.2.2.2.1.1 v.2.2.2.2.2.1.2.1 v.2.2.2.2.2.1.2.2.1 v.2.2.2.2.2.1.2.2.2.1
theorem WA (q:iq):dG (BN q) 251 nP (zo q):=kW (Ie q) (h2:=by intros;simp only[Ie,pI,bV,bW,bu,bQ,bY])
def Ig (q:iq) {γ:Type} (a:vO.den->Option γ) (b:zC.den->Option γ) (c:zJ.den->Option γ) (v:vO.den):Option γ:=pJ q (fun v0 v1 v2 v3 v4 v5 v6 v7 v8 v9 v10=>a ((),((v0,v1,()),(v2,v3,()),(v4,v5,()),(),()),((),(),v6,(v7,v8,v9,v10,()),()))) (fun e0 e1 e2 e3 e4 e5 e6 e7 e8 e9 e10=>b ((),((e0,e1,()),(e2,e3,()),(e4,e5,()),(),()),((),(),e6,(e7,e8,e9,e10,()),()))) (fun r0 r1 r2 r3 r4 r5=>c ((),((r0,r1,()),(r2,r3,()),(r4,r5,()),(),()),())) v.2.1.1.1 v.2.1.1.2.1 v.2.1.2.1.1 v.2.1.2.1.2.1 v.2.1.2.2.1.1 v.2.1.2.2.1.2.1 v.2.2.2.2.1 v.2.2.2.2.2.1.1 v.2.2.2.2.2.1.2.1 v.2.2.2.2.2.1.2.2.1 v.2.2.2.2.2.1.2.2.2.1
theorem WB (q:iq):dG (BN q) 251 nP (zq q):=kW (Ig q) (h2:=by intros;simp only[Ig,pJ,bV,bW,bu,bQ,bY])
def Ih (q:iq) {γ:Type} (a:vP.den->Option γ) (b:zD.den->Option γ) (c:zK.den->Option γ) (v:vP.den):Option γ:=pK q (fun v0 v1 v2 v3 v4 v5 v6 v7 v8 v9 v10=>a ((),((v0,v1,()),(v2,v3,()),(v4,v5,()),(),()),((),(),v6,(v7,v8,v9,v10,()),()))) (fun e0 e1 e2 e3 e4 e5 e6 e7 e8 e9 e10=>b ((),((e0,e1,()),(e2,e3,()),(e4,e5,()),(),()),((),(),e6,(e7,e8,e9,e10,()),()))) (fun r0 r1 r2 r3 r4 r5=>c ((),((r0,r1,()),(r2,r3,()),(r4,r5,()),(),()),())) v.2.1.1.1 v.2.1.1.2.1 v.2.1.2.1.1 v.2.1.2.1.2.1 v.2.1.2.2.1.1 v.2.1.2.2.1.2.1 v.2.2.2.2.1 v.2.2.2.2.2.1.1 v.2.2.2.2.2.1.2.1 v.2.2.2.2.2.1.2.2.1 v.2.2.2.2.2.1.2.2.2.1
theorem WC (q:iq):dG (BN q) 251 nP (zt q):=kW (Ih q) (h2:=by intros;simp only[Ih,pK,bV,bW,bu,bQ,bY])
def Ii (q:iq) {γ:Type} (a:vS.den->Option γ) (b:zF.den->Option γ) (c:zL.den->Option γ) (v:vS.den):Option γ:=pM q (fun v0 v1 v2 v3 v4 v5 v6 v7 v8 v9 v10=>a ((),((v0,v1,()),(v2,v3,()),(v4,v5,()),(),()),((),(),v6,(v7,v8,v9,v10,()),()))) (fun e0 e1 e2 e3 e4 e5 e6 e7 e8 e9 e10=>b ((),((e0,e1,()),(e2,e3,()),(e4,e5,()),(),()),((),(),e6,(e7,e8,e9,e10,()),()))) (fun r0 r1 r2 r3 r4 r5=>c ((),((r0,r1,()),(r2,r3,()),(r4,r5,()),(),()),())) v.2.1.1.1 v.2.1.1.2.1 v.2.1.2.1.1 v.2.1.2.1.2.1 v.2.1.2.2.1.1 v.2.1.2.2.1.2.1 v.2.2.2.2.1 v.2.2.2.2.2.1.1 v.2.2.2.2.2.1.2.1 v.2.2.2.2.2.1.2.2.1 v.2.2.2.2.2.1.2.2.2.1
theorem WE (q:iq):dG (BN q) 251 nP (zu q):=kW (Ii q) (h2:=by intros;simp only[Ii,pM,bV,bW,bu,bQ,bY])
theorem ahw (q:iq):dD (BN q) 251 RV:=nJ [nP] (aD (fun L h=>by rw[show((BN q)).lp 251 (dn nP)=some (mW (Eu q) (mW (zn q) (mW (zo q) (mW (zq q) (mW (zt q) ((zu q))))))) by kernel_rfl]at h;cases h;exact rZ (afc q) (rZ (Wy q) (rZ (WA q) (rZ (WB q) (rZ (WC q) ((WE q))))))) aN)
theorem an2 (q:iq) (H:H89 q):eu (BN q):=eB aN [251] (aD ⟨f251,RV,by kernel_rfl,by kernel_rfl,ahw q⟩ aN) (hx:=(aD sQ (aD H.2.2.2.2.2.2.2.1 (aD H.2.2.2.2.2.2.2.2.1 (aD H.2.2.2.2.2.2.2.2.2.1 (aD H.2.2.2.2.2.2.2.2.2.2.1 (aD H.2.2.2.2.2.2.2.2.2.2.2.1 (aD H.2.2.2.2.2.2.2.2.2.2.2.2.1 (aD Yz aN)))))))))
def as4 (q:iq) (x0:List fU) (x1:Int) (x2:List fZ) (x3 x4:Int):Option BC:=bz (o5 x0 x1 x2 x3 x4) fun y0=>bz (Zt y0.1.1 y0.1.2.1 y0.1.2.2.1 y0.1.2.2.2.1 y0.1.2.2.2.2.1) fun y1=>bif y1.2.1 then bif(bJ 2 2)then bif(bJ y1.1.2.1 y1.1.2.1)then bif(bJ y1.1.2.2.2.1 y1.1.2.2.2.1)then bif(dO (bG y1.1.2.2.1 [(2,(y1.1.2.1,(0,(y1.1.2.2.2.1,()))))]) 32)then bif(bJ 2 2)then bif(bJ y1.1.2.1 y1.1.2.1)then bif(bJ y1.1.2.2.2.1 y1.1.2.2.2.1)then bif((bJ 2 2)&&((bJ y1.1.2.1 y1.1.2.1)&&((bJ 0 0)&&((bJ y1.1.2.2.2.1 y1.1.2.2.2.1)&&true))))then bz (q.q89 y1.1.1 y1.1.2.1 (bG y1.1.2.2.1 [(2,(y1.1.2.1,(0,(y1.1.2.2.2.1,()))))]) (bC y1.1.2.2.1) y1.1.2.2.2.2.1) fun y2=>bif(fB y2.1.2.2.1 (bC y1.1.2.2.1))then bif(nD (dm (bC y1.1.2.2.1)) y2.1.2.2.1)then some ((y2.1.1,(y2.1.2.1,((ig y2.1.2.2.1 (dm (bC y1.1.2.2.1)) ((dA y2.1.2.2.1 (0,(0,(0,(0,())))) (dm (bC y1.1.2.2.1))).1,((dA y2.1.2.2.1 (0,(0,(0,(0,())))) (dm (bC y1.1.2.2.1))).2.1,(y2.1.2.1,((dA y2.1.2.2.1 (0,(0,(0,(0,())))) (dm (bC y1.1.2.2.1))).2.2.2.1,()))))),(y1.1.2.2.2.1,(y2.1.2.2.2.2.1,()))))),())else none else none else none else none else none else none else none else none else none else none else bz (yx y1.1.1 y1.1.2.1 y1.1.2.2.1 y1.1.2.2.2.1 y1.1.2.2.2.2.1) fun y2=>some ((y2.1.1,(y2.1.2.1,(y2.1.2.2.1,(y2.1.2.2.2.1,(y2.1.2.2.2.2.1,()))))),())
noncomputable def aD8 (q:iq):Env:=gy prog tt [] [(266,600002,oC),(58,600003,jM)] [] [] [(88,YC),(89,aiY q),(115,Dv),(184,Ol)]
theorem aod (q:iq) (H:H89 q):eu (aD8 q):=eB aN [] aN (hx:=(aD Fv (aD H.1 (aD qI (aD sU aN)))))
def asY (q:iq) (x0:List fU) (x1:Int) (x2:List fZ) (x3 x4:Int):Option BC:=bz (q.q266 x0 x1 x2 x3 x4) fun y0=>bz (rM y0.1.1 y0.1.2.1 y0.1.2.2.1 y0.1.2.2.2.1 y0.1.2.2.2.2.1 [125]) fun y1=>some ((y1.1.1,(y1.1.2.1,(y1.1.2.2.1,(y1.1.2.2.2.1,(y1.1.2.2.2.2.1,()))))),())
noncomputable def aD5 (q:iq):Env:=gy prog tt [] [] [] [] [(255,Fj),(266,G8 q)]
theorem an6 (q:iq) (H:H89 q):eu (aD5 q):=eB aN [] aN (hx:=(aD sV (aD H.2.2.2.2.2.2.1 aN)))
def asZ (q:iq) (x0:List fU) (x1:Int) (x2:List fZ) (x3 x4:Int):Option BC:=bz (q.q266 x0 x1 x2 x3 x4) fun y0=>bz (rM y0.1.1 y0.1.2.1 y0.1.2.2.1 y0.1.2.2.2.1 y0.1.2.2.2.2.1 [41]) fun y1=>some ((y1.1.1,(y1.1.2.1,(y1.1.2.2.1,(y1.1.2.2.2.1,(y1.1.2.2.2.2.1,()))))),())
noncomputable def aD6 (q:iq):Env:=gy prog tt [] [] [] [] [(255,Fj),(266,G8 q)]
theorem an7 (q:iq) (H:H89 q):eu (aD6 q):=eB aN [] aN (hx:=(aD sV (aD H.2.2.2.2.2.2.1 aN)))
noncomputable def aDO:Code:=(f247.body).getD .skip
noncomputable def aq9:Code:=cA (cA (cA (cB (cB (cB (aDO))))))
def aua:dW:=⟨[0,100003],[],[0],[],[],[]⟩
def aaL:SQ:=⟨us [.ptr 0 0] 21,[[.ptr 0 0]],[.box 0 115 [.v nK,.v cO,.slc 1,.v cO,.v cO],.arr 1 lG]⟩
def abl:SQ:=⟨us [.ptr 0 0] 21,[[.ptr 0 0]],[.box 0 115 [.v nK,.v cO,.slc 1,.v cO,.v cO],.arr 1 lG]⟩
def abY:SQ:=⟨us [] 22,[[.ptr 0 0]],[]⟩
def Rf (q:iq) {γ:Type} (rec kE:(List fU)->Int->Int->Int->(List fZ)->Option γ) (kR:Option γ) (v0:List fU) (v1 v2 v3:Int) (v4:List fZ):Option γ:=bz (rG v0 v1 v4 v2 v3 [101]) fun y0=>bif y0.2.1 then bz (q.q266 y0.1.1 y0.1.2.1 y0.1.2.2.1 y0.1.2.2.2.1 y0.1.2.2.2.2.1) fun y1=>bz (rM y1.1.1 y1.1.2.1 y1.1.2.2.1 y1.1.2.2.2.1 y1.1.2.2.2.2.1 [116]) fun y2=>bz (q.q266 y2.1.1 y2.1.2.1 y2.1.2.2.1 y2.1.2.2.2.1 y2.1.2.2.2.2.1) fun y3=>rec y3.1.1 y3.1.2.1 y3.1.2.2.2.1 y3.1.2.2.2.2.1 y3.1.2.2.1 else kE y0.1.1 y0.1.2.1 y0.1.2.2.2.1 y0.1.2.2.2.2.1 y0.1.2.2.1
def Kw (q:iq):Nat->(List fU)->Int->Int->Int->(List fZ)->Option (abl.den⊕abY.den)
 |0,_,_,_,_,_=>none
 |n+1,v0,v1,v2,v3,v4=>Rf q (Kw q n) (fun e0 e1 e2 e3 e4=>some (.inl ((),((),()),((e0,e1,e2,e3,()),e4,())))) (some (.inr ((),((),()),()))) v0 v1 v2 v3 v4
def aAf (q:iq) (n:Nat) (v:aaL.den):=Kw q n v.2.2.1.1 v.2.2.1.2.1 v.2.2.1.2.2.1 v.2.2.1.2.2.2.1 v.2.2.2.1
noncomputable def ak3 (q:iq):di:=eX aua aaL abl abY (.exit 0) (aAf q bH) 6
def as1 (q:iq) (x0:List fU) (x1:Int) (x2:List fZ) (x3 x4:Int):Option BC:=bz (q.q266 x0 x1 x2 x3 x4) fun y0=>bz (rM y0.1.1 y0.1.2.1 y0.1.2.2.1 y0.1.2.2.2.1 y0.1.2.2.2.2.1 [116]) fun y1=>bz (q.q266 y1.1.1 y1.1.2.1 y1.1.2.2.1 y1.1.2.2.2.1 y1.1.2.2.2.2.1) fun y2=>bz (Kw q bH y2.1.1 y2.1.2.1 y2.1.2.2.2.1 y2.1.2.2.2.2.1 y2.1.2.2.1) fun y3=>dE y3 (fun a4=>bz (rG a4.2.2.1.1 a4.2.2.1.2.1 a4.2.2.2.1 a4.2.2.1.2.2.1 a4.2.2.1.2.2.2.1 [108]) fun y5=>bif y5.2.1 then bz (q.q266 y5.1.1 y5.1.2.1 y5.1.2.2.1 y5.1.2.2.2.1 y5.1.2.2.2.2.1) fun y6=>bz (rM y6.1.1 y6.1.2.1 y6.1.2.2.1 y6.1.2.2.2.1 y6.1.2.2.2.2.1 [102]) fun y7=>some ((y7.1.1,(y7.1.2.1,(y7.1.2.2.1,(y7.1.2.2.2.1,(y7.1.2.2.2.2.1,()))))),())else bz (rM y5.1.1 y5.1.2.1 y5.1.2.2.1 y5.1.2.2.2.1 y5.1.2.2.2.2.1 [102]) fun y6=>some ((y6.1.1,(y6.1.2.1,(y6.1.2.2.1,(y6.1.2.2.2.1,(y6.1.2.2.2.2.1,()))))),())) (fun b4=>none)
noncomputable def agO (q:iq):Env:=gy prog tt [] [(247,3,aua)] [(247,3,ak3 q)] [] [(87,Fq),(255,Fj),(266,G8 q)]
def amA (q:iq) {γ:Type} (a:aaL.den->Option γ) (b:abl.den->Option γ) (c:abY.den->Option γ) (v:aaL.den):Option γ:=Rf q (fun v0 v1 v2 v3 v4=>a ((),((),()),((v0,v1,v2,v3,()),v4,()))) (fun e0 e1 e2 e3 e4=>b ((),((),()),((e0,e1,e2,e3,()),e4,()))) (c ((),((),()),())) v.2.2.1.1 v.2.2.1.2.1 v.2.2.1.2.2.1 v.2.2.1.2.2.2.1 v.2.2.2.1
theorem aAT (q:iq):dG (agO q) 247 aq9 (ak3 q):=kW (amA q) (h2:=by intros;simp only[amA,Rf,bV,bW,bu,bQ,bY])
theorem aFb (q:iq):dD (agO q) 247 aDO:=nJ [aq9] (aD (fM (aAT q)) aN)
theorem an8 (q:iq) (H:H89 q):eu (agO q):=eB aN [247] (aD ⟨f247,aDO,by kernel_rfl,by kernel_rfl,aFb q⟩ aN) (hx:=(aD mJ (aD sV (aD H.2.2.2.2.2.2.1 aN))))
def aBZ (q:iq) (x0:List fU) (x1:Int) (x2:List fZ) (x3 x4:Int):Option BC:=bz (q.q266 x0 x1 x2 x3 x4) fun y0=>bz (q.q267 y0.1.1 y0.1.2.1 y0.1.2.2.1 y0.1.2.2.2.1 y0.1.2.2.2.2.1) fun y1=>some ((y1.1.1,(y1.1.2.1,(y1.1.2.2.1,(y1.1.2.2.2.1,(y1.1.2.2.2.2.1,()))))),())
noncomputable def aD7 (q:iq):Env:=gy prog tt [] [] [] [] [(266,G8 q),(267,ac4 q)]
theorem an9 (q:iq) (H:H89 q):eu (aD7 q):=eB aN [] aN (hx:=(aD H.2.2.2.2.2.2.1 (aD H.2.2.2.2.2.2.2.2.2.2.2.2.2.2 aN)))
noncomputable def aDP:Code:=(f249.body).getD .skip
noncomputable def ara:Code:=cA (cA (cA (cA (cB (cB (cB (cB (cA (cB (aDP))))))))))
def aub:dW:=⟨[0,100007],[],[0],[],[],[]⟩
def aaM:SQ:=⟨us [.ptr 0 0] 47,[[.ptr 0 0]],[.box 0 115 [.v nK,.v cO,.slc 1,.v cO,.v cO],.arr 1 lG]⟩
def abm:SQ:=⟨us [.ptr 0 0] 47,[[.ptr 0 0]],[.box 0 115 [.v nK,.v cO,.slc 1,.v cO,.v cO],.arr 1 lG]⟩
def abZ:SQ:=⟨us [] 48,[[.ptr 0 0]],[]⟩
def Rh (q:iq) {γ:Type} (rec kE:(List fU)->Int->Int->Int->(List fZ)->Option γ) (kR:Option γ) (v0:List fU) (v1 v2 v3:Int) (v4:List fZ):Option γ:=bz (OM v0 v1 v4 v2 v3) fun y0=>bif y0.2.1 then bz (TG y0.1.1 y0.1.2.1 y0.1.2.2.1 y0.1.2.2.2.1 y0.1.2.2.2.2.1 7) fun y1=>rec y1.1.1 y1.1.2.1 y1.1.2.2.2.1 y1.1.2.2.2.2.1 y1.1.2.2.1 else kE y0.1.1 y0.1.2.1 y0.1.2.2.2.1 y0.1.2.2.2.2.1 y0.1.2.2.1
def Gt (q:iq):Nat->(List fU)->Int->Int->Int->(List fZ)->Option (abm.den⊕abZ.den)
 |0,_,_,_,_,_=>none
 |n+1,v0,v1,v2,v3,v4=>Rh q (Gt q n) (fun e0 e1 e2 e3 e4=>some (.inl ((),((),()),((e0,e1,e2,e3,()),e4,())))) (some (.inr ((),((),()),()))) v0 v1 v2 v3 v4
def aAg (q:iq) (n:Nat) (v:aaM.den):=Gt q n v.2.2.1.1 v.2.2.1.2.1 v.2.2.1.2.2.1 v.2.2.1.2.2.2.1 v.2.2.2.1
noncomputable def ak4 (q:iq):di:=eX aub aaM abm abZ (.exit 0) (aAg q bH) 6
def JQ (q:iq) (y4:(taE×oP)):Option BC:=bz (q.q267 y4.1.1 y4.1.2.1 y4.1.2.2.1 y4.1.2.2.2.1 y4.1.2.2.2.2.1) fun y5=>some ((y5.1.1,(y5.1.2.1,(y5.1.2.2.1,(y5.1.2.2.2.1,(y5.1.2.2.2.2.1,()))))),())
def Qk (y2:BC) (q:iq):Option BC:=bz (rG y2.1.1 y2.1.2.1 y2.1.2.2.1 y2.1.2.2.2.1 y2.1.2.2.2.2.1 [59]) fun y3=>bif y3.2.1 then bz (o5 y3.1.1 y3.1.2.1 y3.1.2.2.1 y3.1.2.2.2.1 y3.1.2.2.2.2.1) fun y4=>JQ q y4 else bz (o5 y3.1.1 y3.1.2.1 y3.1.2.2.1 y3.1.2.2.2.1 y3.1.2.2.2.2.1) fun y4=>bz (rG y4.1.1 y4.1.2.1 y4.1.2.2.1 y4.1.2.2.2.1 y4.1.2.2.2.2.1 [107]) fun y5=>bif y5.2.1 then bz (Gt q bH y5.1.1 y5.1.2.1 y5.1.2.2.2.1 y5.1.2.2.2.2.1 y5.1.2.2.1) fun y6=>dE y6 (fun a7=>bz (rG a7.2.2.1.1 a7.2.2.1.2.1 a7.2.2.2.1 a7.2.2.1.2.2.1 a7.2.2.1.2.2.2.1 [59]) fun y8=>bz (o5 y8.1.1 y8.1.2.1 y8.1.2.2.1 y8.1.2.2.2.1 y8.1.2.2.2.2.1) fun y9=>bif(!y9.2.1)then bif(!y8.2.1)then bz (yx y9.1.1 y9.1.2.1 y9.1.2.2.1 y9.1.2.2.2.1 y9.1.2.2.2.2.1) fun y10=>bz (q.q267 y10.1.1 y10.1.2.1 y10.1.2.2.1 y10.1.2.2.2.1 y10.1.2.2.2.2.1) fun y11=>some ((y11.1.1,(y11.1.2.1,(y11.1.2.2.1,(y11.1.2.2.2.1,(y11.1.2.2.2.2.1,()))))),())else JQ q y9 else JQ q y9) (fun b7=>none)else JQ q y5
def as2 (q:iq) (x0:List fU) (x1:Int) (x2:List fZ) (x3 x4:Int):Option BC:=bz (OM x0 x1 x2 x3 x4) fun y0=>bif y0.2.1 then bif(fB y0.1.1 y0.1.2.1)then bz (ad3 (dQ y0.1.1 (0,([],(0,(0,())))) y0.1.2.1).2.1) fun y1=>bif y1.1 then bz (TG y0.1.1 y0.1.2.1 y0.1.2.2.1 y0.1.2.2.2.1 y0.1.2.2.2.2.1 7) fun y2=>Qk y2 q else bz (yx y0.1.1 y0.1.2.1 y0.1.2.2.1 y0.1.2.2.2.1 y0.1.2.2.2.2.1) fun y2=>Qk y2 q else none else bz (yx y0.1.1 y0.1.2.1 y0.1.2.2.1 y0.1.2.2.2.1 y0.1.2.2.2.2.1) fun y1=>Qk y1 q
noncomputable def agP (q:iq):Env:=gy prog tt [(253,axz)] [(249,7,aub)] [(249,7,ak4 q)] [] [(87,Fq),(90,am7),(115,Dv),(184,Ol),(256,sum256),(267,ac4 q)]
def amB (q:iq) {γ:Type} (a:aaM.den->Option γ) (b:abm.den->Option γ) (c:abZ.den->Option γ) (v:aaM.den):Option γ:=Rh q (fun v0 v1 v2 v3 v4=>a ((),((),()),((v0,v1,v2,v3,()),v4,()))) (fun e0 e1 e2 e3 e4=>b ((),((),()),((e0,e1,e2,e3,()),e4,()))) (c ((),((),()),())) v.2.2.1.1 v.2.2.1.2.1 v.2.2.1.2.2.1 v.2.2.1.2.2.2.1 v.2.2.2.1
theorem aAU (q:iq):dG (agP q) 249 ara (ak4 q):=kW (amB q) (h2:=by intros;simp only[amB,Rh,bV,bW,bu,bQ,bY])
theorem aFc (q:iq):dD (agP q) 249 aDP:=nJ [ara] (aD (fM (aAU q)) aN)
theorem aoa (q:iq) (H:H89 q):eu (agP q):=eB (aD YA aN) [249] (aD ⟨f249,aDP,by kernel_rfl,by kernel_rfl,aFc q⟩ aN) (hx:=(aD mJ (aD LX (aD qI (aD sU (aD G7 (aD H.2.2.2.2.2.2.2.2.2.2.2.2.2.2 aN)))))))
noncomputable def aDQ:Code:=(f250.body).getD .skip
noncomputable def arb:Code:=cA (cA (cA (cB (cB (cB (cB (cB (cA (aDQ)))))))))
def auc:dW:=⟨[0,100004],[],[0],[],[],[]⟩
def aaN:SQ:=⟨us [.ptr 0 0] 31,[[.ptr 0 0]],[.box 0 115 [.v nK,.v cO,.slc 1,.v cO,.v cO],.arr 1 lG]⟩
def abn:SQ:=⟨us [.ptr 0 0] 31,[[.ptr 0 0]],[.box 0 115 [.v nK,.v cO,.slc 1,.v cO,.v cO],.arr 1 lG]⟩
def ab1:SQ:=⟨us [] 32,[[.ptr 0 0]],[]⟩
def Ri (q:iq) {γ:Type} (rec kE:(List fU)->Int->Int->Int->(List fZ)->Option γ) (kR:Option γ) (v0:List fU) (v1 v2 v3:Int) (v4:List fZ):Option γ:=bz (Xn v0 v1 v4 v2 v3 [40]) fun y0=>bif y0.2.1 then bif(bJ 15 15)then bif(bJ y0.1.2.1 y0.1.2.1)then bif(bJ y0.1.2.2.2.1 y0.1.2.2.2.1)then bif(dO (bG y0.1.2.2.1 [(15,(y0.1.2.1,(0,(y0.1.2.2.2.1,()))))]) 32)then bif(bJ 15 15)then bif(bJ y0.1.2.1 y0.1.2.1)then bif(bJ y0.1.2.2.2.1 y0.1.2.2.2.1)then bif((bJ 15 15)&&((bJ y0.1.2.1 y0.1.2.1)&&((bJ 0 0)&&((bJ y0.1.2.2.2.1 y0.1.2.2.2.1)&&true))))then bz (q.q268 y0.1.1 y0.1.2.1 (bG y0.1.2.2.1 [(15,(y0.1.2.1,(0,(y0.1.2.2.2.1,()))))]) (bC y0.1.2.2.1) y0.1.2.2.2.2.1) fun y1=>bif(fB y1.1.2.2.1 (bC y0.1.2.2.1))then bif(nD (dm (bC y0.1.2.2.1)) y1.1.2.2.1)then bz (rG y1.1.1 y1.1.2.1 (ig y1.1.2.2.1 (dm (bC y0.1.2.2.1)) ((dA y1.1.2.2.1 (0,(0,(0,(0,())))) (dm (bC y0.1.2.2.1))).1,((dA y1.1.2.2.1 (0,(0,(0,(0,())))) (dm (bC y0.1.2.2.1))).2.1,(y1.1.2.1,((dA y1.1.2.2.1 (0,(0,(0,(0,())))) (dm (bC y0.1.2.2.1))).2.2.2.1,()))))) y0.1.2.2.2.1 y1.1.2.2.2.2.1 [121]) fun y2=>bif(!y2.2.1)then kE y2.1.1 y2.1.2.1 y2.1.2.2.2.1 y2.1.2.2.2.2.1 y2.1.2.2.1 else bz (o5 y2.1.1 y2.1.2.1 y2.1.2.2.1 y2.1.2.2.2.1 y2.1.2.2.2.2.1) fun y3=>rec y3.1.1 y3.1.2.1 y3.1.2.2.2.1 y3.1.2.2.2.2.1 y3.1.2.2.1 else none else none else none else none else none else none else none else none else none else none else bz (OM y0.1.1 y0.1.2.1 y0.1.2.2.1 y0.1.2.2.2.1 y0.1.2.2.2.2.1) fun y1=>bif y1.2.1 then bz (yl y1.1.1 y1.1.2.1 y1.1.2.2.1 y1.1.2.2.2.1 y1.1.2.2.2.2.1 0) fun y2=>bif(!(bJ y2.2.1 122))then bif(bJ 15 15)then bif(bJ y2.1.2.1 y2.1.2.1)then bif(bJ y2.1.2.2.2.1 y2.1.2.2.2.1)then bif(dO (bG y2.1.2.2.1 [(15,(y2.1.2.1,(0,(y2.1.2.2.2.1,()))))]) 32)then bif(bJ 15 15)then bif(bJ y2.1.2.1 y2.1.2.1)then bif(bJ y2.1.2.2.2.1 y2.1.2.2.2.1)then bif((bJ 15 15)&&((bJ y2.1.2.1 y2.1.2.1)&&((bJ 0 0)&&((bJ y2.1.2.2.2.1 y2.1.2.2.2.1)&&true))))then bz (q.q268 y2.1.1 y2.1.2.1 (bG y2.1.2.2.1 [(15,(y2.1.2.1,(0,(y2.1.2.2.2.1,()))))]) (bC y2.1.2.2.1) y2.1.2.2.2.2.1) fun y3=>bif(fB y3.1.2.2.1 (bC y2.1.2.2.1))then bif(nD (dm (bC y2.1.2.2.1)) y3.1.2.2.1)then bz (rG y3.1.1 y3.1.2.1 (ig y3.1.2.2.1 (dm (bC y2.1.2.2.1)) ((dA y3.1.2.2.1 (0,(0,(0,(0,())))) (dm (bC y2.1.2.2.1))).1,((dA y3.1.2.2.1 (0,(0,(0,(0,())))) (dm (bC y2.1.2.2.1))).2.1,(y3.1.2.1,((dA y3.1.2.2.1 (0,(0,(0,(0,())))) (dm (bC y2.1.2.2.1))).2.2.2.1,()))))) y2.1.2.2.2.1 y3.1.2.2.2.2.1 [121]) fun y4=>bif(!y4.2.1)then kE y4.1.1 y4.1.2.1 y4.1.2.2.2.1 y4.1.2.2.2.2.1 y4.1.2.2.1 else bz (o5 y4.1.1 y4.1.2.1 y4.1.2.2.1 y4.1.2.2.2.1 y4.1.2.2.2.2.1) fun y5=>rec y5.1.1 y5.1.2.1 y5.1.2.2.2.1 y5.1.2.2.2.2.1 y5.1.2.2.1 else none else none else none else none else none else none else none else none else none else none else kE y2.1.1 y2.1.2.1 y2.1.2.2.2.1 y2.1.2.2.2.2.1 y2.1.2.2.1 else kE y1.1.1 y1.1.2.1 y1.1.2.2.2.1 y1.1.2.2.2.2.1 y1.1.2.2.1
def Gu (q:iq):Nat->(List fU)->Int->Int->Int->(List fZ)->Option (abn.den⊕ab1.den)
 |0,_,_,_,_,_=>none
 |n+1,v0,v1,v2,v3,v4=>Ri q (Gu q n) (fun e0 e1 e2 e3 e4=>some (.inl ((),((),()),((e0,e1,e2,e3,()),e4,())))) (some (.inr ((),((),()),()))) v0 v1 v2 v3 v4
def aAh (q:iq) (n:Nat) (v:aaN.den):=Gu q n v.2.2.1.1 v.2.2.1.2.1 v.2.2.1.2.2.1 v.2.2.1.2.2.2.1 v.2.2.2.1
noncomputable def ak5 (q:iq):di:=eX auc aaN abn ab1 (.exit 0) (aAh q bH) 6
def as3 (q:iq) (x0:List fU) (x1:Int) (x2:List fZ) (x3 x4:Int):Option BC:=bz (OL x0 x1 x2 x3 x4) fun y0=>bz (o5 y0.1.1 y0.1.2.1 y0.1.2.2.1 y0.1.2.2.2.1 y0.1.2.2.2.2.1) fun y1=>bz (rM y1.1.1 y1.1.2.1 y1.1.2.2.1 y1.1.2.2.2.1 y1.1.2.2.2.2.1 [107]) fun y2=>bz (o5 y2.1.1 y2.1.2.1 y2.1.2.2.1 y2.1.2.2.2.1 y2.1.2.2.2.2.1) fun y3=>bz (Gu q bH y3.1.1 y3.1.2.1 y3.1.2.2.2.1 y3.1.2.2.2.2.1 y3.1.2.2.1) fun y4=>dE y4 (fun a5=>bz (rM a5.2.2.1.1 a5.2.2.1.2.1 a5.2.2.2.1 a5.2.2.1.2.2.1 a5.2.2.1.2.2.2.1 [122]) fun y6=>some ((y6.1.1,(y6.1.2.1,(y6.1.2.2.1,(y6.1.2.2.2.1,(y6.1.2.2.2.2.1,()))))),())) (fun b5=>none)
noncomputable def agQ (q:iq):Env:=gy prog tt [] [(250,4,auc),(250,600005,oC),(58,600003,jM)] [(250,4,ak5 q)] [] [(87,Fq),(111,awU),(112,aiQ),(115,Dv),(254,ac3),(255,Fj),(256,sum256),(268,am3 q)]
def amC (q:iq) {γ:Type} (a:aaN.den->Option γ) (b:abn.den->Option γ) (c:ab1.den->Option γ) (v:aaN.den):Option γ:=Ri q (fun v0 v1 v2 v3 v4=>a ((),((),()),((v0,v1,v2,v3,()),v4,()))) (fun e0 e1 e2 e3 e4=>b ((),((),()),((e0,e1,e2,e3,()),e4,()))) (c ((),((),()),())) v.2.2.1.1 v.2.2.1.2.1 v.2.2.1.2.2.1 v.2.2.1.2.2.2.1 v.2.2.2.1
theorem aAV (q:iq):dG (agQ q) 250 arb (ak5 q):=kW (amC q) (h2:=by intros;simp only[amC,Ri,bV,bW,bu,bQ,bY])
theorem aFd (q:iq):dD (agQ q) 250 aDQ:=nJ [arb] (aD (fM (aAV q)) aN)
theorem aob (q:iq) (H:H89 q):eu (agQ q):=eB aN [250] (aD ⟨f250,aDQ,by kernel_rfl,by kernel_rfl,aFd q⟩ aN) (hx:=(aD mJ (aD Ob (aD sQ (aD qI (aD G6 (aD sV (aD G7 (aD H.2.2.2.2.2.2.2.2.2.2.2.2.2.1 aN)))))))))
noncomputable def aDR:Code:=(f268.body).getD .skip
noncomputable def arc:Code:=cA (cA (cA (cB (cB (aDR)))))
def aud:dW:=⟨[0,100002],[],[0],[],[],[]⟩
def aaO:SQ:=⟨us [.ptr 0 0] 19,[[.ptr 0 0]],[.box 0 115 [.v nK,.v cO,.slc 1,.v cO,.v cO],.arr 1 lG]⟩
def abo:SQ:=⟨us [.ptr 0 0] 19,[[.ptr 0 0]],[.box 0 115 [.v nK,.v cO,.slc 1,.v cO,.v cO],.arr 1 lG]⟩
def ab2:SQ:=⟨us [] 20,[[.ptr 0 0]],[]⟩
def Rj (q:iq) {γ:Type} (rec kE:(List fU)->Int->Int->Int->(List fZ)->Option γ) (kR:Option γ) (v0:List fU) (v1 v2 v3:Int) (v4:List fZ):Option γ:=bz (rG v0 v1 v4 v2 v3 [124]) fun y0=>bif y0.2.1 then bz (OL y0.1.1 y0.1.2.1 y0.1.2.2.1 y0.1.2.2.2.1 y0.1.2.2.2.2.1) fun y1=>rec y1.1.1 y1.1.2.1 y1.1.2.2.2.1 y1.1.2.2.2.2.1 y1.1.2.2.1 else kE y0.1.1 y0.1.2.1 y0.1.2.2.2.1 y0.1.2.2.2.2.1 y0.1.2.2.1
def Ky (q:iq):Nat->(List fU)->Int->Int->Int->(List fZ)->Option (abo.den⊕ab2.den)
 |0,_,_,_,_,_=>none
 |n+1,v0,v1,v2,v3,v4=>Rj q (Ky q n) (fun e0 e1 e2 e3 e4=>some (.inl ((),((),()),((e0,e1,e2,e3,()),e4,())))) (some (.inr ((),((),()),()))) v0 v1 v2 v3 v4
def aAi (q:iq) (n:Nat) (v:aaO.den):=Ky q n v.2.2.1.1 v.2.2.1.2.1 v.2.2.1.2.2.1 v.2.2.1.2.2.2.1 v.2.2.2.1
noncomputable def ak6 (q:iq):di:=eX aud aaO abo ab2 (.exit 0) (aAi q bH) 6
def as6 (q:iq) (x0:List fU) (x1:Int) (x2:List fZ) (x3 x4:Int):Option BC:=bz (rG x0 x1 x2 x3 x4 [40]) fun y0=>bz (OL y0.1.1 y0.1.2.1 y0.1.2.2.1 y0.1.2.2.2.1 y0.1.2.2.2.2.1) fun y1=>bz (Ky q bH y1.1.1 y1.1.2.1 y1.1.2.2.2.1 y1.1.2.2.2.2.1 y1.1.2.2.1) fun y2=>dE y2 (fun a3=>bz (rM a3.2.2.1.1 a3.2.2.1.2.1 a3.2.2.2.1 a3.2.2.1.2.2.1 a3.2.2.1.2.2.2.1 [41]) fun y4=>bz (o5 y4.1.1 y4.1.2.1 y4.1.2.2.1 y4.1.2.2.2.1 y4.1.2.2.2.2.1) fun y5=>bz (Zt y5.1.1 y5.1.2.1 y5.1.2.2.1 y5.1.2.2.2.1 y5.1.2.2.2.2.1) fun y6=>bif y6.2.1 then bif(bJ 2 2)then bif(bJ y6.1.2.1 y6.1.2.1)then bif(bJ y6.1.2.2.2.1 y6.1.2.2.2.1)then bif(dO (bG y6.1.2.2.1 [(2,(y6.1.2.1,(0,(y6.1.2.2.2.1,()))))]) 32)then bif(bJ 2 2)then bif(bJ y6.1.2.1 y6.1.2.1)then bif(bJ y6.1.2.2.2.1 y6.1.2.2.2.1)then bif((bJ 2 2)&&((bJ y6.1.2.1 y6.1.2.1)&&((bJ 0 0)&&((bJ y6.1.2.2.2.1 y6.1.2.2.2.1)&&true))))then bz (q.q89 y6.1.1 y6.1.2.1 (bG y6.1.2.2.1 [(2,(y6.1.2.1,(0,(y6.1.2.2.2.1,()))))]) (bC y6.1.2.2.1) y6.1.2.2.2.2.1) fun y7=>bif(fB y7.1.2.2.1 (bC y6.1.2.2.1))then bif(nD (dm (bC y6.1.2.2.1)) y7.1.2.2.1)then some ((y7.1.1,(y7.1.2.1,((ig y7.1.2.2.1 (dm (bC y6.1.2.2.1)) ((dA y7.1.2.2.1 (0,(0,(0,(0,())))) (dm (bC y6.1.2.2.1))).1,((dA y7.1.2.2.1 (0,(0,(0,(0,())))) (dm (bC y6.1.2.2.1))).2.1,(y7.1.2.1,((dA y7.1.2.2.1 (0,(0,(0,(0,())))) (dm (bC y6.1.2.2.1))).2.2.2.1,()))))),(y6.1.2.2.2.1,(y7.1.2.2.2.2.1,()))))),())else none else none else none else none else none else none else none else none else none else none else some ((y6.1.1,(y6.1.2.1,(y6.1.2.2.1,(y6.1.2.2.2.1,(y6.1.2.2.2.2.1,()))))),())) (fun b3=>none)
noncomputable def agR (q:iq):Env:=gy prog tt [] [(268,2,aud),(268,600007,oC),(58,600003,jM)] [(268,2,ak6 q)] [] [(87,Fq),(88,YC),(89,aiY q),(115,Dv),(254,ac3),(255,Fj)]
def amD (q:iq) {γ:Type} (a:aaO.den->Option γ) (b:abo.den->Option γ) (c:ab2.den->Option γ) (v:aaO.den):Option γ:=Rj q (fun v0 v1 v2 v3 v4=>a ((),((),()),((v0,v1,v2,v3,()),v4,()))) (fun e0 e1 e2 e3 e4=>b ((),((),()),((e0,e1,e2,e3,()),e4,()))) (c ((),((),()),())) v.2.2.1.1 v.2.2.1.2.1 v.2.2.1.2.2.1 v.2.2.1.2.2.2.1 v.2.2.2.1
theorem aAW (q:iq):dG (agR q) 268 arc (ak6 q):=kW (amD q) (h2:=by intros;simp only[amD,Rj,bV,bW,bu,bQ,bY])
theorem aFe (q:iq):dD (agR q) 268 aDR:=nJ [arc] (aD (fM (aAW q)) aN)
theorem aof (q:iq) (H:H89 q):eu (agR q):=eB aN [268] (aD ⟨f268,aDR,by kernel_rfl,by kernel_rfl,aFe q⟩ aN) (hx:=(aD mJ (aD Fv (aD H.1 (aD qI (aD G6 (aD sV aN)))))))
def as5 (q:iq) (x0:List fU) (x1:Int) (x2:List fZ) (x3 x4:Int):Option BC:=bz (rM x0 x1 x2 x3 x4 [100]) fun y0=>bz (q.q266 y0.1.1 y0.1.2.1 y0.1.2.2.1 y0.1.2.2.2.1 y0.1.2.2.2.2.1) fun y1=>bz (rM y1.1.1 y1.1.2.1 y1.1.2.2.1 y1.1.2.2.2.1 y1.1.2.2.2.2.1 [103]) fun y2=>some ((y2.1.1,(y2.1.2.1,(y2.1.2.2.1,(y2.1.2.2.2.1,(y2.1.2.2.2.2.1,()))))),())
noncomputable def aD9 (q:iq):Env:=gy prog tt [] [] [] [] [(255,Fj),(266,G8 q)]
theorem aoe (q:iq) (H:H89 q):eu (aD9 q):=eB aN [] aN (hx:=(aD sV (aD H.2.2.2.2.2.2.1 aN)))
def gB:Nat->iq
 |0=>⟨(fun _ _ _ _ _=>none),(fun _ _ _ _ _=>none),(fun _ _ _ _ _=>none),(fun _ _ _ _ _=>none),(fun _ _ _ _ _=>none),(fun _ _ _ _ _=>none),(fun _ _ _ _ _=>none),(fun _ _ _ _ _=>none),(fun _ _ _ _ _=>none),(fun _ _ _ _ _=>none),(fun _ _ _ _ _=>none),(fun _ _ _ _ _=>none),(fun _ _ _ _ _=>none),(fun _ _ _ _ _=>none),(fun _ _ _ _ _=>none)⟩
 |r+1=>⟨aEi (gB r),asO (gB r),adL (gB r),asQ (gB r),asX (gB r),Am (gB r),as4 (gB r),asY (gB r),asZ (gB r),as1 (gB r),aBZ (gB r),as2 (gB r),as3 (gB r),as6 (gB r),as5 (gB r)⟩
def aEo (x0:List fU) (x1:Int) (x2:List fZ) (x3 x4:Int):Option BC:=(gB bH).q89 x0 x1 x2 x3 x4
def aDf:fP:=⟨115,Hm,[],[],fun x y=>aEo x.1 x.2.1 x.2.2.1 x.2.2.2.1 x.2.2.2.2.1⟩
theorem avW: ∀r,H89 (gB r)
 |0=>⟨nG fun _ _=>rfl,nG fun _ _=>rfl,nG fun _ _=>rfl,nG fun _ _=>rfl,nG fun _ _=>rfl,nG fun _ _=>rfl,nG fun _ _=>rfl,nG fun _ _=>rfl,nG fun _ _=>rfl,nG fun _ _=>rfl,nG fun _ _=>rfl,nG fun _ _=>rfl,nG fun _ _=>rfl,nG fun _ _=>rfl,nG fun _ _=>rfl⟩
 |r+1=>by
  have ih:=avW r;exact⟨sB (aso (gB r) ih),
   sB (anv (gB r) ih),
   sB (anK (gB r) ih),
   sB (anU (gB r) ih),
   sB (an3 (gB r) ih),
   sB (an2 (gB r) ih),
   sB (aod (gB r) ih),
   sB (an6 (gB r) ih),
   sB (an7 (gB r) ih),
   sB (an8 (gB r) ih),
   sB (an9 (gB r) ih),
   sB (aoa (gB r) ih),
   sB (aob (gB r) ih),
   sB (aof (gB r) ih),
   sB (aoe (gB r) ih)⟩
theorem ax8:dM prog 89 aDf:=(avW bH).1
noncomputable def b59:Code:=(f59.body).getD .skip
noncomputable def aBD:Code:=cA (cA (cB (b59)))
def aCf:dW:=⟨[0,2,100001],[],[],[],[],[]⟩
def aly:SQ:=⟨us [.ptr 0 0,.u,.v .bool] 26,[[.ptr 0 0]],[.box 0 115 [.v nK,.v cO,.slc 1,.v cO,.v cO],.arr 1 lG]⟩
def ahT:SQ:=⟨us [] 29,[[.ptr 0 0]],[.box 0 115 [.v nK,.v cO,.slc 1,.v cO,.v cO],.arr 1 lG]⟩
def ail:SQ:=⟨us [] 29,[[.ptr 0 0]],[]⟩
def acG {γ:Type} (rec:Bool->(List fU)->Int->Int->Int->(List fZ)->Option γ) (kE:(List fU)->Int->Int->Int->(List fZ)->Option γ) (kR:Option γ) (v0:Bool) (v1:List fU) (v2 v3 v4:Int) (v5:List fZ):Option γ:=bif(gU v2 (bC v1))then bz (rG v1 v2 v5 v3 v4 [110]) fun y0=>bif y0.2.1 then rec v0 y0.1.1 y0.1.2.1 y0.1.2.2.2.1 y0.1.2.2.2.2.1 y0.1.2.2.1 else bif(!v0)then bz (Zt y0.1.1 y0.1.2.1 y0.1.2.2.1 y0.1.2.2.2.1 y0.1.2.2.2.2.1) fun y1=>bif y1.2.1 then bif(bJ 2 2)then bif(bJ y1.1.2.1 y1.1.2.1)then bif(bJ y1.1.2.2.2.1 y1.1.2.2.2.1)then bif(dO (bG y1.1.2.2.1 [(2,(y1.1.2.1,(0,(y1.1.2.2.2.1,()))))]) 32)then bif(bJ 2 2)then bif(bJ y1.1.2.1 y1.1.2.1)then bif(bJ y1.1.2.2.2.1 y1.1.2.2.2.1)then bif((bJ 2 2)&&((bJ y1.1.2.1 y1.1.2.1)&&((bJ 0 0)&&((bJ y1.1.2.2.2.1 y1.1.2.2.2.1)&&true))))then bz (aEo y1.1.1 y1.1.2.1 (bG y1.1.2.2.1 [(2,(y1.1.2.1,(0,(y1.1.2.2.2.1,()))))]) (bC y1.1.2.2.1) y1.1.2.2.2.2.1) fun y2=>bif(fB y2.1.2.2.1 (bC y1.1.2.2.1))then bif(nD (dm (bC y1.1.2.2.1)) y2.1.2.2.1)then rec true y2.1.1 y2.1.2.1 y1.1.2.2.2.1 y2.1.2.2.2.2.1 (ig y2.1.2.2.1 (dm (bC y1.1.2.2.1)) ((dA y2.1.2.2.1 (0,(0,(0,(0,())))) (dm (bC y1.1.2.2.1))).1,((dA y2.1.2.2.1 (0,(0,(0,(0,())))) (dm (bC y1.1.2.2.1))).2.1,(y2.1.2.1,((dA y2.1.2.2.1 (0,(0,(0,(0,())))) (dm (bC y1.1.2.2.1))).2.2.2.1,())))))else none else none else none else none else none else none else none else none else none else none else bz (TG y1.1.1 y1.1.2.1 y1.1.2.2.1 y1.1.2.2.2.1 y1.1.2.2.2.2.1 17) fun y2=>rec false y2.1.1 y2.1.2.1 y2.1.2.2.2.1 y2.1.2.2.2.2.1 y2.1.2.2.1 else bz (TG y0.1.1 y0.1.2.1 y0.1.2.2.1 y0.1.2.2.2.1 y0.1.2.2.2.2.1 17) fun y1=>rec false y1.1.1 y1.1.2.1 y1.1.2.2.2.1 y1.1.2.2.2.2.1 y1.1.2.2.1 else kE v1 v2 v3 v4 v5
def Na:Nat->Bool->(List fU)->Int->Int->Int->(List fZ)->Option (ahT.den⊕ail.den)
 |0,_,_,_,_,_,_=>none
 |n+1,v0,v1,v2,v3,v4,v5=>acG (Na n) (fun e0 e1 e2 e3 e4=>some (.inl ((),((),()),((e0,e1,e2,e3,()),e4,())))) (some (.inr ((),((),()),()))) v0 v1 v2 v3 v4 v5
def aFr (n:Nat) (v:aly.den):=Na n v.1.1 v.2.2.1.1 v.2.2.1.2.1 v.2.2.1.2.2.1 v.2.2.1.2.2.2.1 v.2.2.2.1
noncomputable def auW:di:=eX aCf aly ahT ail (.exit 0) (aFr bH) 6
def aEl (x0:List fU) (x1:Int) (x2:List fZ) (x3 x4:Int):Option BC:=bz (Na bH false x0 x1 x3 x4 x2) fun y0=>dE y0 (fun a1=>some ((a1.2.2.1.1,(a1.2.2.1.2.1,(a1.2.2.2.1,(a1.2.2.1.2.2.1,(a1.2.2.1.2.2.2.1,()))))),())) (fun b1=>none)
def aJc:fP:=⟨115,Hm,[],[],fun x y=>aEl x.1 x.2.1 x.2.2.1 x.2.2.2.1 x.2.2.2.2.1⟩
noncomputable def arV:Env:=gy prog tt [] [(59,1,aCf),(59,600006,oC),(58,600003,jM)] [(59,1,auW)] [] [(87,Fq),(88,YC),(89,aDf),(90,am7)]
def awe {γ:Type} (a:aly.den->Option γ) (b:ahT.den->Option γ) (c:ail.den->Option γ) (v:aly.den):Option γ:=acG (fun v0 v1 v2 v3 v4 v5=>a ((v0,()),((),()),((v1,v2,v3,v4,()),v5,()))) (fun e0 e1 e2 e3 e4=>b ((),((),()),((e0,e1,e2,e3,()),e4,()))) (c ((),((),()),())) v.1.1 v.2.2.1.1 v.2.2.1.2.1 v.2.2.1.2.2.1 v.2.2.1.2.2.2.1 v.2.2.2.1
theorem aF7:dG arV 59 aBD auW:=kW (awe) (h2:=by intros;simp only[awe,acG,bV,bW,bu,bQ,bY])
theorem aIB:dD arV 59 b59:=nJ [aBD] (aD (fM (aF7)) aN)
theorem arW:eu arV:=eB aN [59] (aD ⟨f59,b59,by kernel_rfl,by kernel_rfl,aIB⟩ aN) (hx:=(aD mJ (aD Fv (aD ax8 (aD LX aN)))))
theorem axR:dM prog 59 aJc:=sB arW
def ag1 (x0:List fU):Option ((List fZ)×Unit):=bif(bJ 1 1)then bif(bJ 0 0)then bif(bJ (-1) (-1))then bif(dO [(1,(0,(0,((-1),()))))] 32)then bif(bJ 1 1)then bif(bJ 0 0)then bif(bJ (-1) (-1))then bif((bJ 1 1)&&((bJ 0 0)&&((bJ 0 0)&&((bJ (-1) (-1))&&true))))then bz (aEl x0 0 [(1,(0,(0,((-1),()))))] 0 0) fun y0=>bif(fB y0.1.2.2.1 0)then bif(nD (dm 0) y0.1.2.2.1)then some ((ig y0.1.2.2.1 (dm 0) ((dA y0.1.2.2.1 (0,(0,(0,(0,())))) (dm 0)).1,((dA y0.1.2.2.1 (0,(0,(0,(0,())))) (dm 0)).2.1,(y0.1.2.1,((dA y0.1.2.2.1 (0,(0,(0,(0,())))) (dm 0)).2.2.2.1,()))))),())else none else none else none else none else none else none else none else none else none else none
def axG:Sum:=⟨[nK],[(.list lG,false)],fun x=>ag1 x.1⟩
theorem afN:dH prog 33 axG:=qC [(33,600002,F9),(58,600003,jM)] aN (sF axR aN)
noncomputable def b75:Code:=(f75.body).getD .skip
noncomputable def aBM:Code:=cA (cA (cB (cA (cB (cB (cB (b75)))))))
def aCm:dW:=⟨[3,4,100005],[],[],[],[2],[]⟩
def alH:SP:=⟨us [.u,.u,.u,.v .str,.v cO] 25,[]⟩
def ahZ:SP:=⟨us [] 30,[]⟩
def air:SP:=⟨us [.u,.u,.v .bool] 27,[]⟩
def acN {γ:Type} (rec:bM->Int->Option γ) (kE:Option γ) (kR:Bool->Option γ) (v0:bM) (v1:Int):Option γ:=bif(leI (bU .i64 v1 (bC v0)) 65)then bif(eU (bC [32,33,32,123,32,125,32,99,97,115,101,32,100,111,32,100,111,110,101,32,101,108,105,102,32,101,108,115,101,32,101,115,97,99,32,102,105,32,102,111,114,32,105,102,32,105,110,32,116,104,101,110,32,117,110,116,105,108,32,119,104,105,108,101,32]) v1 (bU .i64 v1 (bC v0)))then bif(fG (sub [32,33,32,123,32,125,32,99,97,115,101,32,100,111,32,100,111,110,101,32,101,108,105,102,32,101,108,115,101,32,101,115,97,99,32,102,105,32,102,111,114,32,105,102,32,105,110,32,116,104,101,110,32,117,110,116,105,108,32,119,104,105,108,101,32] v1 (bU .i64 v1 (bC v0))) v0)then kR true else rec v0 (bU .i64 v1 1)else none else kE
def Uj:Nat->bM->Int->Option (ahZ.den⊕air.den)
 |0,_,_=>none
 |n+1,v0,v1=>acN (Uj n) (some (.inl ((),()))) (fun r0=>some (.inr ((r0,()),()))) v0 v1
def aFA (n:Nat) (v:alH.den):=Uj n v.1.1 v.1.2.1
noncomputable def au5:di:=fD aCm alH ahZ air (.exit 0) (aFA bH) 6
def aou (x0:bM):Option oP:=bif(bJ (bC x0) 0)then some (false,())else bz (Eg 32 x0) fun y0=>bif y0.1 then some (false,())else bif(eP [32] x0)then bif(eP (bG [32] x0) [32])then bz (Uj bH (bG (bG [32] x0) [32]) 0) fun y1=>dE y1 (fun a2=>some (false,())) (fun b2=>some (b2.1.1,()))else none else none
def ax2:Sum:=⟨[.str],Ou,fun x=>aou x.1⟩
noncomputable def ar9:Env:=iM prog tt 75 [(77,ax3)] [(5,aCm)] [(5,au5)]
def awn {γ:Type} (a:alH.den->Option γ) (b:ahZ.den->Option γ) (c:air.den->Option γ) (v:alH.den):Option γ:=acN (fun v0 v1=>a ((v0,v1,()),())) (b ((),())) (fun r0=>c ((r0,()),())) v.1.1 v.1.2.1
theorem aGg:dG ar9 75 aBM au5:=uQ (awn) (h2:=by intros;simp only[awn,acN,bV,bW,bu,bQ,bY])
theorem aII:dD ar9 75 b75:=nJ [aBM] (aD (fM (aGg)) aN)
theorem asa:eu ar9:=eA f75 (aD Bz aN) (aII)
theorem afQ:dH prog 75 ax2:=sA asa
noncomputable def b44:Code:=(f44.body).getD .skip
noncomputable def aBz:Code:=cA (cA (cB (cA (cA (cB (cA (cB (cB (cB (b44))))))))))
def aCc:dW:=⟨[1,3,100007],[],[],[],[2],[]⟩
def als:SP:=⟨us [.u,.ptr 1000001 0,.u,.v cO] 59,[.box 1000001 60 [.v cO,.v .str,.v cO,.v cO]]⟩
def ahQ:SP:=⟨us [] 63,[]⟩
def aii:SP:=⟨us [.u,.u,.v .str] 60,[]⟩
def acD {γ:Type} (rec:Int->Int->bM->Int->Int->Option γ) (kE:Option γ) (kR:bM->Option γ) (v0 v1:Int) (v2:bM) (v3 v4:Int):Option γ:=bif(leI v0 17)then bz (Zr v0) fun y0=>bif(fG y0.1 v2)then bif(eU (bC [97,111,121,60,60,60,60,60,60,60,60,60,38,59,124,40,41]) (dR .i64 v0 1) v0)then kR (sub [97,111,121,60,60,60,60,60,60,60,60,60,38,59,124,40,41] (dR .i64 v0 1) v0)else none else rec (bU .i64 v0 1) v1 v2 v3 v4 else kE
def Uh:Nat->Int->Int->bM->Int->Int->Option (ahQ.den⊕aii.den)
 |0,_,_,_,_,_=>none
 |n+1,v0,v1,v2,v3,v4=>acD (Uh n) (some (.inl ((),()))) (fun r0=>some (.inr ((r0,()),()))) v0 v1 v2 v3 v4
def aFn (n:Nat) (v:als.den):=Uh n v.1.1 v.2.1.1 v.2.1.2.1 v.2.1.2.2.1 v.2.1.2.2.2.1
noncomputable def auS:di:=fD aCc als ahQ aii (.exit 0) (aFn bH) 6
def TD (x0:fU):Option Qh:=bif(bJ x0.1 2)then some ([110],())else bif(bJ x0.1 5)then some ([35],())else bif(bJ x0.1 4)then bz (Uh bH 1 x0.1 x0.2.1 x0.2.2.1 x0.2.2.2.1) fun y0=>dE y0 (fun a1=>some ([63],())) (fun b1=>some (b1.1.1,()))else bif(!(bJ x0.1 6))then some ([63],())else bz (aou x0.2.1) fun y0=>bif(!y0.1)then some ([120],())else bif(bJ (bC x0.2.1) 1)then some (x0.2.1,())else bif(fG x0.2.1 [105,102])then some ([105],())else bif(fG x0.2.1 [105,110])then some ([107],())else bif(fG x0.2.1 [101,108,115,101])then some ([108],())else bif(fG x0.2.1 [101,115,97,99])then some ([122],())else bif(fG x0.2.1 [102,111,114])then some ([114],())else bif(fG x0.2.1 [100,111,110,101])then some ([103],())else bif(fG x0.2.1 [117,110,116,105,108])then some ([119],())else bif(eU (bC x0.2.1) 0 1)then some ((sub x0.2.1 0 1),())else none
def aC0:Sum:=⟨[tyD],V7,fun x=>TD x.1⟩
noncomputable def arO:Env:=iM prog tt 44 [(70,am5),(75,ax2)] [(7,aCc)] [(7,auS)]
def av8 {γ:Type} (a:als.den->Option γ) (b:ahQ.den->Option γ) (c:aii.den->Option γ) (v:als.den):Option γ:=acD (fun v0 v1 v2 v3 v4=>a ((v0,()),((v1,v2,v3,v4,()),()))) (b ((),())) (fun r0=>c ((r0,()),())) v.1.1 v.2.1.1 v.2.1.2.1 v.2.1.2.2.1 v.2.1.2.2.2.1
theorem aF3:dG arO 44 aBz auS:=uQ (av8) (h2:=by intros;simp only[av8,acD,bV,bW,bu,bQ,bY])
theorem aIx:dD arO 44 b44:=nJ [aBz] (aD (fM (aF3)) aN)
theorem arP:eu arO:=eA f44 (aD VE (aD afQ aN)) (aIx)
theorem axM:dH prog 44 aC0:=sA arP
def ath (x0:Int):Option oP:=bif(leI 9 x0)then bif(leI x0 14)then some (true,())else some ((bJ x0 16),())else some ((bJ x0 16),())
def aJg:Sum:=⟨[cO],Ou,fun x=>ath x.1⟩
theorem afR:dH prog 76 aJg:=qA f76 [] aN
def DK (x0:List fU) (x1:bM) (x2:List fZ) (x3 x4 x5 x6:Int):Option (taF×DT):=bif(bJ x6 x6)then bif(bJ x3 x3)then bif(bJ x4 x4)then bif(dO (bG x2 [(x6,(x3,(0,(x4,()))))]) 32)then bif(bJ x6 x6)then bif(bJ x3 x3)then bif(bJ x4 x4)then bif((bJ x6 x6)&&((bJ x3 x3)&&((bJ 0 0)&&((bJ x4 x4)&&true))))then bz (ath x6) fun y0=>bif y0.1 then some ((x0,(x1,((bG x2 [(x6,(x3,(0,(x4,()))))]),(x3,((dR .i64 (bC (bG x2 [(x6,(x3,(0,(x4,()))))])) 1),((bU .i64 x5 1),())))))),(x4,()))else some ((x0,(x1,((bG x2 [(x6,(x3,(0,(x4,()))))]),(x3,((dR .i64 (bC (bG x2 [(x6,(x3,(0,(x4,()))))])) 1),(x5,())))))),(x4,()))else none else none else none else none else none else none else none else none
def PV:fP:=⟨101,VT,[cO],[cO],fun x y=>DK x.1 x.2.1 x.2.2.1 x.2.2.2.1 x.2.2.2.2.1 x.2.2.2.2.2.1 y.1⟩
theorem pO:dM prog 45 PV:=qB [] (sE afR aN)
def nI (x0:List fU) (x1:bM) (x2:List fZ) (x3 x4 x5:Int) (x6:bM):Option (taF×oP):=bif(gU x3 (bC x1))then bif(fB x1 x3)then bz (Eg (bT x1 x3) x6) fun y0=>some ((x0,(x1,(x2,(x3,(x4,(x5,())))))),(y0.1,()))else none else some ((x0,(x1,(x2,(x3,(x4,(x5,())))))),(false,()))
def Il:fP:=⟨101,VT,[.str],[.bool],fun x y=>nI x.1 x.2.1 x.2.2.1 x.2.2.2.1 x.2.2.2.2.1 x.2.2.2.2.2.1 y.1⟩
theorem kC:dM prog 46 Il:=qB [] (sE Bz aN)
def Xm (x0:List fU) (x1:bM) (x2:List fZ) (x3 x4 x5:Int):Option (taF×oP):=bz (nI x0 x1 x2 x3 x4 x5 [60]) fun y0=>bif y0.2.1 then some ((y0.1.1,(y0.1.2.1,(y0.1.2.2.1,(y0.1.2.2.2.1,(y0.1.2.2.2.2.1,(y0.1.2.2.2.2.2.1,())))))),(true,()))else bz (nI y0.1.1 y0.1.2.1 y0.1.2.2.1 y0.1.2.2.2.1 y0.1.2.2.2.2.1 y0.1.2.2.2.2.2.1 [35]) fun y1=>bif y1.2.1 then bif(gU (bU .i64 y1.1.2.2.2.1 1) (bC y1.1.2.1))then bif(fB y1.1.2.1 (bU .i64 y1.1.2.2.2.1 1))then some ((y1.1.1,(y1.1.2.1,(y1.1.2.2.1,(y1.1.2.2.2.1,(y1.1.2.2.2.2.1,(y1.1.2.2.2.2.2.1,())))))),((bJ (bT y1.1.2.1 (bU .i64 y1.1.2.2.2.1 1)) 60),()))else none else some ((y1.1.1,(y1.1.2.1,(y1.1.2.2.1,(y1.1.2.2.2.1,(y1.1.2.2.2.2.1,(y1.1.2.2.2.2.2.1,())))))),(false,()))else some ((y1.1.1,(y1.1.2.1,(y1.1.2.2.1,(y1.1.2.2.2.1,(y1.1.2.2.2.2.1,(y1.1.2.2.2.2.2.1,())))))),(false,()))
def aiP:fP:=⟨101,VT,[],[.bool],fun x y=>Xm x.1 x.2.1 x.2.2.1 x.2.2.2.1 x.2.2.2.2.1 x.2.2.2.2.2.1⟩
theorem Oa:dM prog 100 aiP:=qB [] aN (sF kC aN)
def Tv (x0:List fU) (x1:bM) (x2:List fZ) (x3 x4 x5:Int):Option (taF×oP):=bz (nI x0 x1 x2 x3 x4 x5 [123,40,105,119,114,99]) fun y0=>bif y0.2.1 then some ((y0.1.1,(y0.1.2.1,(y0.1.2.2.1,(y0.1.2.2.2.1,(y0.1.2.2.2.2.1,(y0.1.2.2.2.2.2.1,())))))),((gU y0.1.2.2.2.2.2.1 200),()))else some ((y0.1.1,(y0.1.2.1,(y0.1.2.2.1,(y0.1.2.2.2.1,(y0.1.2.2.2.2.1,(y0.1.2.2.2.2.2.1,())))))),(false,()))
def awT:fP:=⟨101,VT,[],[.bool],fun x y=>Tv x.1 x.2.1 x.2.2.1 x.2.2.2.1 x.2.2.2.2.1 x.2.2.2.2.2.1⟩
theorem Yk:dM prog 101 awT:=qB [] aN (sF kC aN)
def ati (x0:List fU) (x1:bM) (x2:List fZ) (x3 x4 x5:Int):Option (taF×oP):=bz (nI x0 x1 x2 x3 x4 x5 [120]) fun y0=>bif y0.2.1 then some ((y0.1.1,(y0.1.2.1,(y0.1.2.2.1,(y0.1.2.2.2.1,(y0.1.2.2.2.2.1,(y0.1.2.2.2.2.2.1,())))))),(true,()))else bz (Xm y0.1.1 y0.1.2.1 y0.1.2.2.1 y0.1.2.2.2.1 y0.1.2.2.2.2.1 y0.1.2.2.2.2.2.1) fun y1=>bif y1.2.1 then some ((y1.1.1,(y1.1.2.1,(y1.1.2.2.1,(y1.1.2.2.2.1,(y1.1.2.2.2.2.1,(y1.1.2.2.2.2.2.1,())))))),(true,()))else bz (Tv y1.1.1 y1.1.2.1 y1.1.2.2.1 y1.1.2.2.2.1 y1.1.2.2.2.2.1 y1.1.2.2.2.2.2.1) fun y2=>some ((y2.1.1,(y2.1.2.1,(y2.1.2.2.1,(y2.1.2.2.2.1,(y2.1.2.2.2.2.1,(y2.1.2.2.2.2.2.1,())))))),(y2.2.1,()))
def aDb:fP:=⟨101,VT,[],[.bool],fun x y=>ati x.1 x.2.1 x.2.2.1 x.2.2.2.1 x.2.2.2.2.1 x.2.2.2.2.2.1⟩
theorem afS:dM prog 78 aDb:=qB [] aN (sF kC (sF Oa (sF Yk aN)))
def P7 (x0:List fU) (x1:bM) (x2:List fZ) (x3 x4 x5:Int):Option (taF×oP):=bz (nI x0 x1 x2 x3 x4 x5 [33]) fun y0=>bif y0.2.1 then some ((y0.1.1,(y0.1.2.1,(y0.1.2.2.1,(y0.1.2.2.2.1,(y0.1.2.2.2.2.1,(y0.1.2.2.2.2.2.1,())))))),(true,()))else bz (ati y0.1.1 y0.1.2.1 y0.1.2.2.1 y0.1.2.2.2.1 y0.1.2.2.2.2.1 y0.1.2.2.2.2.2.1) fun y1=>some ((y1.1.1,(y1.1.2.1,(y1.1.2.2.1,(y1.1.2.2.2.1,(y1.1.2.2.2.2.1,(y1.1.2.2.2.2.2.1,())))))),(y1.2.1,()))
def YB:fP:=⟨101,VT,[],[.bool],fun x y=>P7 x.1 x.2.1 x.2.2.1 x.2.2.2.1 x.2.2.2.2.1 x.2.2.2.2.2.1⟩
theorem Fp:dM prog 47 YB:=qB [] aN (sF kC (sF afS aN))
end
section
open Tryz
open Go.RowKit
def MN (x2:List fZ) (x4 x3:Int):=ig x2 (dm x4) ((dA x2 (0,(0,(0,(0,())))) (dm x4)).1,((dA x2 (0,(0,(0,(0,())))) (dm x4)).2.1,(x3,((dA x2 (0,(0,(0,(0,())))) (dm x4)).2.2.2.1,()))))
def o8 (x0:List fU) (x1:bM) (x2:List fZ) (x3 x4 x5 x6:Int):Option Jp:=bif(fB x2 x4)then bif(nD (dm x4) x2)then bif(fB (MN x2 x4 x3) x4)then bif(nD (dm x4) (MN x2 x4 x3))then bz (ath (dA (MN x2 x4 x3) (0,(0,(0,(0,())))) (dm x4)).1) fun y0=>bif y0.1 then some ((x0,(x1,((MN x2 x4 x3),(x3,(x6,((dR .i64 x5 1),())))))),())else some ((x0,(x1,((MN x2 x4 x3),(x3,(x6,(x5,())))))),())else none else none else none else none
def PW:fP:=⟨101,VT,[cO],[],fun x y=>o8 x.1 x.2.1 x.2.2.1 x.2.2.2.1 x.2.2.2.2.1 x.2.2.2.2.2.1 y.1⟩
theorem pR:dM prog 50 PW:=qB [] (sE afR aN)
noncomputable def b80:Code:=(f80.body).getD .skip
noncomputable def aBP:Code:=cA (cA (cA (cB (cB (b80)))))
def alK:SQ:=⟨us [.ptr 0 0,.u,.u,.v cO] 13,[[.ptr 0 0]],[.box 0 101 [.v nK,.v .str,.slc 1,.v cO,.v cO,.v cO],.arr 1 lG]⟩
def ah2:SQ:=⟨us [.u,.u,.u,.v cO] 13,[[.ptr 0 0]],[.box 0 101 [.v nK,.v .str,.slc 1,.v cO,.v cO,.v cO],.arr 1 lG]⟩
def aiu:SQ:=⟨us [.u,.u,.v cO] 14,[[.ptr 0 0]],[]⟩
def acP {γ:Type} (rec kE:Int->(List fU)->bM->Int->Int->Int->(List fZ)->Option γ) (kR:Int->Option γ) (v0:Int) (v1:List fU) (v2:bM) (v3 v4 v5:Int) (v6:List fZ):Option γ:=bz (nI v1 v2 v6 v3 v4 v5 [110]) fun y0=>bif y0.2.1 then rec (bU .i64 v0 1) y0.1.1 y0.1.2.1 (bU .i64 y0.1.2.2.2.1 1) y0.1.2.2.2.2.1 y0.1.2.2.2.2.2.1 y0.1.2.2.1 else kE v0 y0.1.1 y0.1.2.1 y0.1.2.2.2.1 y0.1.2.2.2.2.1 y0.1.2.2.2.2.2.1 y0.1.2.2.1
def Ul:Nat->Int->(List fU)->bM->Int->Int->Int->(List fZ)->Option (ah2.den⊕aiu.den)
 |0,_,_,_,_,_,_,_=>none
 |n+1,v0,v1,v2,v3,v4,v5,v6=>acP (Ul n) (fun e0 e1 e2 e3 e4 e5 e6=>some (.inl ((e0,()),((),()),((e1,e2,e3,e4,e5,()),e6,())))) (fun r0=>some (.inr ((r0,()),((),()),()))) v0 v1 v2 v3 v4 v5 v6
def aFD (n:Nat) (v:alK.den):=Ul n v.1.1 v.2.2.1.1 v.2.2.1.2.1 v.2.2.1.2.2.1 v.2.2.1.2.2.2.1 v.2.2.1.2.2.2.2.1 v.2.2.2.1
noncomputable def au8:di:=eX ZI alK ah2 aiu (.exit 0) (aFD bH) 6
def rV (x0:List fU) (x1:bM) (x2:List fZ) (x3 x4 x5:Int):Option (taF×DT):=bz (Ul bH 0 x0 x1 x3 x4 x5 x2) fun y0=>dE y0 (fun a1=>some ((a1.2.2.1.1,(a1.2.2.1.2.1,(a1.2.2.2.1,(a1.2.2.1.2.2.1,(a1.2.2.1.2.2.2.1,(a1.2.2.1.2.2.2.2.1,())))))),(a1.1.1,()))) (fun b1=>none)
def PX:fP:=⟨101,VT,[],[cO],fun x y=>rV x.1 x.2.1 x.2.2.1 x.2.2.2.1 x.2.2.2.2.1 x.2.2.2.2.2.1⟩
noncomputable def ash:Env:=gy prog tt [] [(80,2,ZI)] [(80,2,au8)] [] [(46,Il)]
def awq {γ:Type} (a:alK.den->Option γ) (b:ah2.den->Option γ) (c:aiu.den->Option γ) (v:alK.den):Option γ:=acP (fun v0 v1 v2 v3 v4 v5 v6=>a ((v0,()),((),()),((v1,v2,v3,v4,v5,()),v6,()))) (fun e0 e1 e2 e3 e4 e5 e6=>b ((e0,()),((),()),((e1,e2,e3,e4,e5,()),e6,()))) (fun r0=>c ((r0,()),((),()),())) v.1.1 v.2.2.1.1 v.2.2.1.2.1 v.2.2.1.2.2.1 v.2.2.1.2.2.2.1 v.2.2.1.2.2.2.2.1 v.2.2.2.1
theorem aGj:dG ash 80 aBP au8:=kW (awq) (h2:=by intros;simp only[awq,acP,bV,bW,bu,bQ,bY])
theorem aIL:dD ash 80 b80:=nJ [aBP] (aD (fM (aGj)) aN)
theorem asi:eu ash:=eB aN [80] (aD ⟨f80,b80,by kernel_rfl,by kernel_rfl,aIL⟩ aN) (hx:=(aD kC aN))
theorem xJ:dM prog 80 PX:=sB asi
def uA (x0:List fU) (x1:bM) (x2:List fZ) (x3 x4 x5:Int):Option Jp:=bz (DK x0 x1 x2 x3 x4 x5 18) fun y0=>bz (o8 y0.1.1 y0.1.2.1 y0.1.2.2.1 y0.1.2.2.2.1 y0.1.2.2.2.2.1 y0.1.2.2.2.2.2.1 y0.2.1) fun y1=>some ((y1.1.1,(y1.1.2.1,(y1.1.2.2.1,(y1.1.2.2.2.1,(y1.1.2.2.2.2.1,(y1.1.2.2.2.2.2.1,())))))),())
def Vz:fP:=⟨101,VT,[],[],fun x y=>uA x.1 x.2.1 x.2.2.1 x.2.2.2.1 x.2.2.2.2.1 x.2.2.2.2.2.1⟩
theorem wS:dM prog 103 Vz:=qB [] aN (sF pO (sF pR aN))
def MM (x0:List fU) (x1:bM) (x2:List fZ) (x3 x4 x5 x6:Int):Option Jp:=bz (DK x0 x1 x2 x3 x4 x5 x6) fun y0=>bz (o8 y0.1.1 y0.1.2.1 y0.1.2.2.1 (bU .i64 y0.1.2.2.2.1 1) y0.1.2.2.2.2.1 y0.1.2.2.2.2.2.1 y0.2.1) fun y1=>some ((y1.1.1,(y1.1.2.1,(y1.1.2.2.1,(y1.1.2.2.2.1,(y1.1.2.2.2.2.1,(y1.1.2.2.2.2.2.1,())))))),())
def am4:fP:=⟨101,VT,[cO],[],fun x y=>MM x.1 x.2.1 x.2.2.1 x.2.2.2.1 x.2.2.2.2.1 x.2.2.2.2.2.1 y.1⟩
theorem LW:dM prog 49 am4:=qB [] aN (sF pO (sF pR aN))
def mF (x0:List fU) (x1:bM) (x2:List fZ) (x3 x4 x5:Int) (x6:bM):Option Jp:=bz (nI x0 x1 x2 x3 x4 x5 x6) fun y0=>bif y0.2.1 then some ((y0.1.1,(y0.1.2.1,(y0.1.2.2.1,((bU .i64 y0.1.2.2.2.1 1),(y0.1.2.2.2.2.1,(y0.1.2.2.2.2.2.1,())))))),())else bz (uA y0.1.1 y0.1.2.1 y0.1.2.2.1 y0.1.2.2.2.1 y0.1.2.2.2.2.1 y0.1.2.2.2.2.2.1) fun y1=>some ((y1.1.1,(y1.1.2.1,(y1.1.2.2.1,(y1.1.2.2.2.1,(y1.1.2.2.2.2.1,(y1.1.2.2.2.2.2.1,())))))),())
def VB:fP:=⟨101,VT,[.str],[],fun x y=>mF x.1 x.2.1 x.2.2.1 x.2.2.2.1 x.2.2.2.2.1 x.2.2.2.2.2.1 y.1⟩
theorem G5:dM prog 165 VB:=qB [] aN (sF kC (sF wS aN))
def xm (x0:List fU) (x1:bM) (x2:List fZ) (x3 x4 x5:Int):Option Jp:=bif(gU x3 (bC x0))then bif(fB x0 x3)then bif(bJ (dQ x0 (0,([],(0,(0,())))) x3).1 6)then bz (MM x0 x1 x2 x3 x4 x5 7) fun y0=>some ((y0.1.1,(y0.1.2.1,(y0.1.2.2.1,(y0.1.2.2.2.1,(y0.1.2.2.2.2.1,(y0.1.2.2.2.2.2.1,())))))),())else bz (uA x0 x1 x2 x3 x4 x5) fun y0=>some ((y0.1.1,(y0.1.2.1,(y0.1.2.2.1,(y0.1.2.2.2.1,(y0.1.2.2.2.2.1,(y0.1.2.2.2.2.2.1,())))))),())else none else bz (uA x0 x1 x2 x3 x4 x5) fun y0=>some ((y0.1.1,(y0.1.2.1,(y0.1.2.2.1,(y0.1.2.2.2.1,(y0.1.2.2.2.2.1,(y0.1.2.2.2.2.2.1,())))))),())
def axg:fP:=⟨101,VT,[],[],fun x y=>xm x.1 x.2.1 x.2.2.1 x.2.2.2.1 x.2.2.2.2.1 x.2.2.2.2.2.1⟩
theorem Yx:dM prog 198 axg:=qB [] aN (sF LW (sF wS aN))
def adY (x0:List fU) (x1:bM) (x2:List fZ) (x3 x4 x5:Int):Option Jp:=bz (DK x0 x1 x2 x3 x4 x5 8) fun y0=>bz (nI y0.1.1 y0.1.2.1 y0.1.2.2.1 y0.1.2.2.2.1 y0.1.2.2.2.2.1 y0.1.2.2.2.2.2.1 [35]) fun y1=>bif y1.2.1 then bz (xm y1.1.1 y1.1.2.1 y1.1.2.2.1 (bU .i64 (bU .i64 y1.1.2.2.2.1 1) 1) y1.1.2.2.2.2.1 y1.1.2.2.2.2.2.1) fun y2=>bz (o8 y2.1.1 y2.1.2.1 y2.1.2.2.1 y2.1.2.2.2.1 y2.1.2.2.2.2.1 y2.1.2.2.2.2.2.1 y0.2.1) fun y3=>some ((y3.1.1,(y3.1.2.1,(y3.1.2.2.1,(y3.1.2.2.2.1,(y3.1.2.2.2.2.1,(y3.1.2.2.2.2.2.1,())))))),())else bz (xm y1.1.1 y1.1.2.1 y1.1.2.2.1 (bU .i64 y1.1.2.2.2.1 1) y1.1.2.2.2.2.1 y1.1.2.2.2.2.2.1) fun y2=>bz (o8 y2.1.1 y2.1.2.1 y2.1.2.2.1 y2.1.2.2.2.1 y2.1.2.2.2.2.1 y2.1.2.2.2.2.2.1 y0.2.1) fun y3=>some ((y3.1.1,(y3.1.2.1,(y3.1.2.2.1,(y3.1.2.2.2.1,(y3.1.2.2.2.2.1,(y3.1.2.2.2.2.2.1,())))))),())
def aiU:fP:=⟨101,VT,[],[],fun x y=>adY x.1 x.2.1 x.2.2.1 x.2.2.2.1 x.2.2.2.2.1 x.2.2.2.2.2.1⟩
theorem Yv:dM prog 166 aiU:=qB [] aN (sF pO (sF kC (sF pR (sF Yx aN))))
noncomputable def aHT:Code:=(f167.body).getD .skip
noncomputable def aqZ:Code:=cA (cA (cB (cA (cB (aHT)))))
def atU:dW:=⟨[0,3,100002],[],[],[],[2],[]⟩
def aaA:SP:=⟨us [.v .str,.u,.u,.v cO] 17,[]⟩
def aa8:SP:=⟨us [] 21,[]⟩
def abN:SP:=⟨us [.u,.u,.v cO] 18,[]⟩
def QY {γ:Type} (rec:bM->Int->Option γ) (kE:Option γ) (kR:Int->Option γ) (v0:bM) (v1:Int):Option γ:=bif(gU v1 (bC v0))then bif(fB v0 v1)then bif(bJ (bT v0 v1) 61)then bif(eU (bC v0) 0 v1)then bz (TA (sub v0 0 v1)) fun y0=>bif y0.1 then kR v1 else rec v0 (bU .i64 v1 1)else none else rec v0 (bU .i64 v1 1)else none else kE
def Gn:Nat->bM->Int->Option (aa8.den⊕abN.den)
 |0,_,_=>none
 |n+1,v0,v1=>QY (Gn n) (some (.inl ((),()))) (fun r0=>some (.inr ((r0,()),()))) v0 v1
def az4 (n:Nat) (v:aaA.den):=Gn n v.1.1 v.1.2.1
noncomputable def akT:di:=fD atU aaA aa8 abN (.exit 0) (az4 bH) 6
def ajN (x0:bM):Option DT:=bz (Gn bH x0 1) fun y0=>dE y0 (fun a1=>some (0,())) (fun b1=>some (b1.1.1,()))
def axa:Sum:=⟨[.str],YG,fun x=>ajN x.1⟩
noncomputable def agI:Env:=iM prog tt 167 [(164,VA)] [(2,atU)] [(2,akT)]
def amn {γ:Type} (a:aaA.den->Option γ) (b:aa8.den->Option γ) (c:abN.den->Option γ) (v:aaA.den):Option γ:=QY (fun v0 v1=>a ((v0,v1,()),())) (b ((),())) (fun r0=>c ((r0,()),())) v.1.1 v.1.2.1
theorem aAI:dG agI 167 aqZ akT:=uQ (amn) (h2:=by intros;simp only[amn,QY,bV,bW,bu,bQ,bY])
theorem aE1:dD agI 167 aHT:=nJ [aqZ] (aD (fM (aAI)) aN)
theorem anR:eu agI:=eA f167 (aD GZ aN) (aE1)
theorem apG:dH prog 167 axa:=sA anR
structure iQ where
 q48:(List fU)->bM->(List fZ)->Int->Int->Int->Option Jp
 q79:(List fU)->bM->(List fZ)->Int->Int->Int->Option Jp
 q102:(List fU)->bM->(List fZ)->Int->Int->Int->Option Jp
 q130:(List fU)->bM->(List fZ)->Int->Int->Int->Option Jp
 q194:(List fU)->bM->(List fZ)->Int->Int->Int->Option Jp
 q195:(List fU)->bM->(List fZ)->Int->Int->Int->Option Jp
 q163:(List fU)->bM->(List fZ)->Int->Int->Int->Option Jp
 q196:(List fU)->bM->(List fZ)->Int->Int->Int->Option Jp
 q197:(List fU)->bM->(List fZ)->Int->Int->Int->Option Jp
def aiX (q:iQ):fP:=⟨101,VT,[],[],fun x y=>q.q48 x.1 x.2.1 x.2.2.1 x.2.2.2.1 x.2.2.2.2.1 x.2.2.2.2.2.1⟩
def ax4 (q:iQ):fP:=⟨101,VT,[],[],fun x y=>q.q79 x.1 x.2.1 x.2.2.1 x.2.2.2.1 x.2.2.2.2.1 x.2.2.2.2.2.1⟩
def amO (q:iQ):fP:=⟨101,VT,[],[],fun x y=>q.q102 x.1 x.2.1 x.2.2.1 x.2.2.2.1 x.2.2.2.2.1 x.2.2.2.2.2.1⟩
def amQ (q:iQ):fP:=⟨101,VT,[],[],fun x y=>q.q130 x.1 x.2.1 x.2.2.1 x.2.2.2.1 x.2.2.2.2.1 x.2.2.2.2.2.1⟩
def ac0 (q:iQ):fP:=⟨101,VT,[],[],fun x y=>q.q194 x.1 x.2.1 x.2.2.1 x.2.2.2.1 x.2.2.2.2.1 x.2.2.2.2.2.1⟩
def ac1 (q:iQ):fP:=⟨101,VT,[],[],fun x y=>q.q195 x.1 x.2.1 x.2.2.1 x.2.2.2.1 x.2.2.2.2.1 x.2.2.2.2.2.1⟩
def amS (q:iQ):fP:=⟨101,VT,[],[],fun x y=>q.q163 x.1 x.2.1 x.2.2.1 x.2.2.2.1 x.2.2.2.2.1 x.2.2.2.2.2.1⟩
def amU (q:iQ):fP:=⟨101,VT,[],[],fun x y=>q.q196 x.1 x.2.1 x.2.2.1 x.2.2.2.1 x.2.2.2.2.1 x.2.2.2.2.2.1⟩
def amV (q:iQ):fP:=⟨101,VT,[],[],fun x y=>q.q197 x.1 x.2.1 x.2.2.1 x.2.2.2.1 x.2.2.2.2.1 x.2.2.2.2.2.1⟩
noncomputable def b48:Code:=(f48.body).getD .skip
noncomputable def aBA:Code:=cA (cA (cA (cB (cB (b48)))))
def akq:dW:=⟨[0,2,100002],[],[0,2],[],[],[]⟩
def alu:SQ:=⟨us [.ptr 0 0,.u,.v cO] 27,[[.ptr 0 0]],[.box 0 101 [.v nK,.v .str,.slc 1,.v cO,.v cO,.v cO],.arr 1 lG]⟩
def abq:SQ:=⟨us [.ptr 0 0,.u,.v cO] 27,[[.ptr 0 0]],[.box 0 101 [.v nK,.v .str,.slc 1,.v cO,.v cO,.v cO],.arr 1 lG]⟩
def ab5:SQ:=⟨us [] 30,[[.ptr 0 0]],[]⟩
def NZ (q:iQ) {γ:Type} (rec kE:Int->(List fU)->bM->Int->Int->Int->(List fZ)->Option γ) (kR:Option γ) (v0:Int) (v1:List fU) (v2:bM) (v3 v4 v5:Int) (v6:List fZ):Option γ:=bz (nI v1 v2 v6 v3 v4 v5 [59,38]) fun y0=>bif y0.2.1 then bz (rV y0.1.1 y0.1.2.1 y0.1.2.2.1 (bU .i64 y0.1.2.2.2.1 1) y0.1.2.2.2.2.1 y0.1.2.2.2.2.2.1) fun y1=>bz (P7 y1.1.1 y1.1.2.1 y1.1.2.2.1 y1.1.2.2.2.1 y1.1.2.2.2.2.1 y1.1.2.2.2.2.2.1) fun y2=>bif(!y2.2.1)then kE v0 y2.1.1 y2.1.2.1 y2.1.2.2.2.1 y2.1.2.2.2.2.1 y2.1.2.2.2.2.2.1 y2.1.2.2.1 else bz (q.q79 y2.1.1 y2.1.2.1 y2.1.2.2.1 y2.1.2.2.2.1 y2.1.2.2.2.2.1 y2.1.2.2.2.2.2.1) fun y3=>rec v0 y3.1.1 y3.1.2.1 y3.1.2.2.2.1 y3.1.2.2.2.2.1 y3.1.2.2.2.2.2.1 y3.1.2.2.1 else bz (rV y0.1.1 y0.1.2.1 y0.1.2.2.1 y0.1.2.2.2.1 y0.1.2.2.2.2.1 y0.1.2.2.2.2.2.1) fun y1=>bif(bJ y1.2.1 0)then kE v0 y1.1.1 y1.1.2.1 y1.1.2.2.2.1 y1.1.2.2.2.2.1 y1.1.2.2.2.2.2.1 y1.1.2.2.1 else bz (P7 y1.1.1 y1.1.2.1 y1.1.2.2.1 y1.1.2.2.2.1 y1.1.2.2.2.2.1 y1.1.2.2.2.2.2.1) fun y2=>bif(!y2.2.1)then kE v0 y2.1.1 y2.1.2.1 y2.1.2.2.2.1 y2.1.2.2.2.2.1 y2.1.2.2.2.2.2.1 y2.1.2.2.1 else bz (q.q79 y2.1.1 y2.1.2.1 y2.1.2.2.1 y2.1.2.2.2.1 y2.1.2.2.2.2.1 y2.1.2.2.2.2.2.1) fun y3=>rec v0 y3.1.1 y3.1.2.1 y3.1.2.2.2.1 y3.1.2.2.2.2.1 y3.1.2.2.2.2.2.1 y3.1.2.2.1
def zl (q:iQ):Nat->Int->(List fU)->bM->Int->Int->Int->(List fZ)->Option (abq.den⊕ab5.den)
 |0,_,_,_,_,_,_,_=>none
 |n+1,v0,v1,v2,v3,v4,v5,v6=>NZ q (zl q n) (fun e0 e1 e2 e3 e4 e5 e6=>some (.inl ((e0,()),((),()),((e1,e2,e3,e4,e5,()),e6,())))) (some (.inr ((),((),()),()))) v0 v1 v2 v3 v4 v5 v6
def aFo (q:iQ) (n:Nat) (v:alu.den):=zl q n v.1.1 v.2.2.1.1 v.2.2.1.2.1 v.2.2.1.2.2.1 v.2.2.1.2.2.2.1 v.2.2.1.2.2.2.2.1 v.2.2.2.1
noncomputable def auT (q:iQ):di:=eX akq alu abq ab5 (.exit 0) (aFo q bH) 6
def aEg (q:iQ) (x0:List fU) (x1:bM) (x2:List fZ) (x3 x4 x5:Int):Option Jp:=bz (DK x0 x1 x2 x3 x4 x5 2) fun y0=>bz (q.q79 y0.1.1 y0.1.2.1 y0.1.2.2.1 y0.1.2.2.2.1 y0.1.2.2.2.2.1 y0.1.2.2.2.2.2.1) fun y1=>bz (zl q bH y0.2.1 y1.1.1 y1.1.2.1 y1.1.2.2.2.1 y1.1.2.2.2.2.1 y1.1.2.2.2.2.2.1 y1.1.2.2.1) fun y2=>dE y2 (fun a3=>bz (o8 a3.2.2.1.1 a3.2.2.1.2.1 a3.2.2.2.1 a3.2.2.1.2.2.1 a3.2.2.1.2.2.2.1 a3.2.2.1.2.2.2.2.1 a3.1.1) fun y4=>some ((y4.1.1,(y4.1.2.1,(y4.1.2.2.1,(y4.1.2.2.2.1,(y4.1.2.2.2.2.1,(y4.1.2.2.2.2.2.1,())))))),())) (fun b3=>none)
noncomputable def arQ (q:iQ):Env:=gy prog tt [] [(48,2,akq)] [(48,2,auT q)] [] [(45,PV),(46,Il),(47,YB),(50,PW),(79,ax4 q),(80,PX)]
def av9 (q:iQ) {γ:Type} (a:alu.den->Option γ) (b:abq.den->Option γ) (c:ab5.den->Option γ) (v:alu.den):Option γ:=NZ q (fun v0 v1 v2 v3 v4 v5 v6=>a ((v0,()),((),()),((v1,v2,v3,v4,v5,()),v6,()))) (fun e0 e1 e2 e3 e4 e5 e6=>b ((e0,()),((),()),((e1,e2,e3,e4,e5,()),e6,()))) (c ((),((),()),())) v.1.1 v.2.2.1.1 v.2.2.1.2.1 v.2.2.1.2.2.1 v.2.2.1.2.2.2.1 v.2.2.1.2.2.2.2.1 v.2.2.2.1
theorem aF4 (q:iQ):dG (arQ q) 48 aBA (auT q):=kW (av9 q) (h2:=by intros;simp only[av9,NZ,bV,bW,bu,bQ,bY])
theorem aIy (q:iQ):dD (arQ q) 48 b48:=nJ [aBA] (aD (fM (aF4 q)) aN)
abbrev H48 (q:iQ):Prop:=dM prog 48 (aiX q)/\dM prog 79 (ax4 q)/\dM prog 102 (amO q)/\dM prog 130 (amQ q)/\dM prog 194 (ac0 q)/\dM prog 195 (ac1 q)/\dM prog 163 (amS q)/\dM prog 196 (amU q)/\dM prog 197 (amV q)
theorem arR (q:iQ) (H:H48 q):eu (arQ q):=eB aN [48] (aD ⟨f48,b48,by kernel_rfl,by kernel_rfl,aIy q⟩ aN) (hx:=(aD pO (aD kC (aD Fp (aD pR (aD H.2.1 (aD xJ aN)))))))
noncomputable def b79:Code:=(f79.body).getD .skip
noncomputable def aBO:Code:=cA (cA (cA (cB (cB (b79)))))
def alJ:SQ:=⟨us [.ptr 0 0,.u,.v cO] 25,[[.ptr 0 0]],[.box 0 101 [.v nK,.v .str,.slc 1,.v cO,.v cO,.v cO],.arr 1 lG]⟩
def ah1:SQ:=⟨us [.ptr 0 0,.u,.v cO] 25,[[.ptr 0 0]],[.box 0 101 [.v nK,.v .str,.slc 1,.v cO,.v cO,.v cO],.arr 1 lG]⟩
def ait:SQ:=⟨us [] 28,[[.ptr 0 0]],[]⟩
def acO (q:iQ) {γ:Type} (rec kE:Int->(List fU)->bM->Int->Int->Int->(List fZ)->Option γ) (kR:Option γ) (v0:Int) (v1:List fU) (v2:bM) (v3 v4 v5:Int) (v6:List fZ):Option γ:=bz (nI v1 v2 v6 v3 v4 v5 [97,111]) fun y0=>bif y0.2.1 then bz (rV y0.1.1 y0.1.2.1 y0.1.2.2.1 (bU .i64 y0.1.2.2.2.1 1) y0.1.2.2.2.2.1 y0.1.2.2.2.2.2.1) fun y1=>bz (P7 y1.1.1 y1.1.2.1 y1.1.2.2.1 y1.1.2.2.2.1 y1.1.2.2.2.2.1 y1.1.2.2.2.2.2.1) fun y2=>bif y2.2.1 then bz (q.q102 y2.1.1 y2.1.2.1 y2.1.2.2.1 y2.1.2.2.2.1 y2.1.2.2.2.2.1 y2.1.2.2.2.2.2.1) fun y3=>rec v0 y3.1.1 y3.1.2.1 y3.1.2.2.2.1 y3.1.2.2.2.2.1 y3.1.2.2.2.2.2.1 y3.1.2.2.1 else bz (uA y2.1.1 y2.1.2.1 y2.1.2.2.1 y2.1.2.2.2.1 y2.1.2.2.2.2.1 y2.1.2.2.2.2.2.1) fun y3=>rec v0 y3.1.1 y3.1.2.1 y3.1.2.2.2.1 y3.1.2.2.2.2.1 y3.1.2.2.2.2.2.1 y3.1.2.2.1 else kE v0 y0.1.1 y0.1.2.1 y0.1.2.2.2.1 y0.1.2.2.2.2.1 y0.1.2.2.2.2.2.1 y0.1.2.2.1
def Uk (q:iQ):Nat->Int->(List fU)->bM->Int->Int->Int->(List fZ)->Option (ah1.den⊕ait.den)
 |0,_,_,_,_,_,_,_=>none
 |n+1,v0,v1,v2,v3,v4,v5,v6=>acO q (Uk q n) (fun e0 e1 e2 e3 e4 e5 e6=>some (.inl ((e0,()),((),()),((e1,e2,e3,e4,e5,()),e6,())))) (some (.inr ((),((),()),()))) v0 v1 v2 v3 v4 v5 v6
def aFC (q:iQ) (n:Nat) (v:alJ.den):=Uk q n v.1.1 v.2.2.1.1 v.2.2.1.2.1 v.2.2.1.2.2.1 v.2.2.1.2.2.2.1 v.2.2.1.2.2.2.2.1 v.2.2.2.1
noncomputable def au7 (q:iQ):di:=eX akq alJ ah1 ait (.exit 0) (aFC q bH) 6
def aEh (q:iQ) (x0:List fU) (x1:bM) (x2:List fZ) (x3 x4 x5:Int):Option Jp:=bz (DK x0 x1 x2 x3 x4 x5 3) fun y0=>bz (q.q102 y0.1.1 y0.1.2.1 y0.1.2.2.1 y0.1.2.2.2.1 y0.1.2.2.2.2.1 y0.1.2.2.2.2.2.1) fun y1=>bz (Uk q bH y0.2.1 y1.1.1 y1.1.2.1 y1.1.2.2.2.1 y1.1.2.2.2.2.1 y1.1.2.2.2.2.2.1 y1.1.2.2.1) fun y2=>dE y2 (fun a3=>bz (o8 a3.2.2.1.1 a3.2.2.1.2.1 a3.2.2.2.1 a3.2.2.1.2.2.1 a3.2.2.1.2.2.2.1 a3.2.2.1.2.2.2.2.1 a3.1.1) fun y4=>some ((y4.1.1,(y4.1.2.1,(y4.1.2.2.1,(y4.1.2.2.2.1,(y4.1.2.2.2.2.1,(y4.1.2.2.2.2.2.1,())))))),())) (fun b3=>none)
noncomputable def ase (q:iQ):Env:=gy prog tt [] [(79,2,akq)] [(79,2,au7 q)] [] [(45,PV),(46,Il),(47,YB),(50,PW),(80,PX),(102,amO q),(103,Vz)]
def awp (q:iQ) {γ:Type} (a:alJ.den->Option γ) (b:ah1.den->Option γ) (c:ait.den->Option γ) (v:alJ.den):Option γ:=acO q (fun v0 v1 v2 v3 v4 v5 v6=>a ((v0,()),((),()),((v1,v2,v3,v4,v5,()),v6,()))) (fun e0 e1 e2 e3 e4 e5 e6=>b ((e0,()),((),()),((e1,e2,e3,e4,e5,()),e6,()))) (c ((),((),()),())) v.1.1 v.2.2.1.1 v.2.2.1.2.1 v.2.2.1.2.2.1 v.2.2.1.2.2.2.1 v.2.2.1.2.2.2.2.1 v.2.2.2.1
theorem aGi (q:iQ):dG (ase q) 79 aBO (au7 q):=kW (awp q) (h2:=by intros;simp only[awp,acO,bV,bW,bu,bQ,bY])
theorem aIK (q:iQ):dD (ase q) 79 b79:=nJ [aBO] (aD (fM (aGi q)) aN)
theorem asf (q:iQ) (H:H48 q):eu (ase q):=eB aN [79] (aD ⟨f79,b79,by kernel_rfl,by kernel_rfl,aIK q⟩ aN) (hx:=(aD pO (aD kC (aD Fp (aD pR (aD xJ (aD H.2.2.1 (aD wS aN))))))))
noncomputable def aDF:Code:=(f102.body).getD .skip
noncomputable def aqJ:Code:=cA (cA (cA (cB (cB (cB (aDF))))))
def atG:dW:=⟨[0,2,100004],[],[0,2],[],[],[]⟩
def aak:SQ:=⟨us [.ptr 0 0,.u,.v cO] 31,[[.ptr 0 0]],[.box 0 101 [.v nK,.v .str,.slc 1,.v cO,.v cO,.v cO],.arr 1 lG]⟩
def aaT:SQ:=⟨us [.ptr 0 0,.u,.v cO] 31,[[.ptr 0 0]],[.box 0 101 [.v nK,.v .str,.slc 1,.v cO,.v cO,.v cO],.arr 1 lG]⟩
def abx:SQ:=⟨us [] 34,[[.ptr 0 0]],[]⟩
def QL (q:iQ) {γ:Type} (rec kE:Int->(List fU)->bM->Int->Int->Int->(List fZ)->Option γ) (kR:Option γ) (v0:Int) (v1:List fU) (v2:bM) (v3 v4 v5:Int) (v6:List fZ):Option γ:=bz (nI v1 v2 v6 v3 v4 v5 [124]) fun y0=>bif y0.2.1 then bz (rV y0.1.1 y0.1.2.1 y0.1.2.2.1 (bU .i64 y0.1.2.2.2.1 1) y0.1.2.2.2.2.1 y0.1.2.2.2.2.2.1) fun y1=>bz (q.q130 y1.1.1 y1.1.2.1 y1.1.2.2.1 y1.1.2.2.2.1 y1.1.2.2.2.2.1 y1.1.2.2.2.2.2.1) fun y2=>rec v0 y2.1.1 y2.1.2.1 y2.1.2.2.2.1 y2.1.2.2.2.2.1 y2.1.2.2.2.2.2.1 y2.1.2.2.1 else kE v0 y0.1.1 y0.1.2.1 y0.1.2.2.2.1 y0.1.2.2.2.2.1 y0.1.2.2.2.2.2.1 y0.1.2.2.1
def Cc (q:iQ):Nat->Int->(List fU)->bM->Int->Int->Int->(List fZ)->Option (aaT.den⊕abx.den)
 |0,_,_,_,_,_,_,_=>none
 |n+1,v0,v1,v2,v3,v4,v5,v6=>QL q (Cc q n) (fun e0 e1 e2 e3 e4 e5 e6=>some (.inl ((e0,()),((),()),((e1,e2,e3,e4,e5,()),e6,())))) (some (.inr ((),((),()),()))) v0 v1 v2 v3 v4 v5 v6
def azO (q:iQ) (n:Nat) (v:aak.den):=Cc q n v.1.1 v.2.2.1.1 v.2.2.1.2.1 v.2.2.1.2.2.1 v.2.2.1.2.2.2.1 v.2.2.1.2.2.2.2.1 v.2.2.2.1
noncomputable def akD (q:iQ):di:=eX atG aak aaT abx (.exit 0) (azO q bH) 6
def asN (q:iQ) (x0:List fU) (x1:bM) (x2:List fZ) (x3 x4 x5:Int):Option Jp:=bz (DK x0 x1 x2 x3 x4 x5 4) fun y0=>bz (nI y0.1.1 y0.1.2.1 y0.1.2.2.1 y0.1.2.2.2.1 y0.1.2.2.2.2.1 y0.1.2.2.2.2.2.1 [33]) fun y1=>bif y1.2.1 then bz (q.q130 y1.1.1 y1.1.2.1 y1.1.2.2.1 (bU .i64 y1.1.2.2.2.1 1) y1.1.2.2.2.2.1 y1.1.2.2.2.2.2.1) fun y2=>bz (Cc q bH y0.2.1 y2.1.1 y2.1.2.1 y2.1.2.2.2.1 y2.1.2.2.2.2.1 y2.1.2.2.2.2.2.1 y2.1.2.2.1) fun y3=>dE y3 (fun a4=>bz (o8 a4.2.2.1.1 a4.2.2.1.2.1 a4.2.2.2.1 a4.2.2.1.2.2.1 a4.2.2.1.2.2.2.1 a4.2.2.1.2.2.2.2.1 a4.1.1) fun y5=>some ((y5.1.1,(y5.1.2.1,(y5.1.2.2.1,(y5.1.2.2.2.1,(y5.1.2.2.2.2.1,(y5.1.2.2.2.2.2.1,())))))),())) (fun b4=>none)else bz (q.q130 y1.1.1 y1.1.2.1 y1.1.2.2.1 y1.1.2.2.2.1 y1.1.2.2.2.2.1 y1.1.2.2.2.2.2.1) fun y2=>bz (Cc q bH y0.2.1 y2.1.1 y2.1.2.1 y2.1.2.2.2.1 y2.1.2.2.2.2.1 y2.1.2.2.2.2.2.1 y2.1.2.2.1) fun y3=>dE y3 (fun a4=>bz (o8 a4.2.2.1.1 a4.2.2.1.2.1 a4.2.2.2.1 a4.2.2.1.2.2.1 a4.2.2.1.2.2.2.1 a4.2.2.1.2.2.2.2.1 a4.1.1) fun y5=>some ((y5.1.1,(y5.1.2.1,(y5.1.2.2.1,(y5.1.2.2.2.1,(y5.1.2.2.2.2.1,(y5.1.2.2.2.2.2.1,())))))),())) (fun b4=>none)
noncomputable def agt (q:iQ):Env:=gy prog tt [] [(102,4,atG)] [(102,4,akD q)] [] [(45,PV),(46,Il),(50,PW),(80,PX),(130,amQ q)]
def al7 (q:iQ) {γ:Type} (a:aak.den->Option γ) (b:aaT.den->Option γ) (c:abx.den->Option γ) (v:aak.den):Option γ:=QL q (fun v0 v1 v2 v3 v4 v5 v6=>a ((v0,()),((),()),((v1,v2,v3,v4,v5,()),v6,()))) (fun e0 e1 e2 e3 e4 e5 e6=>b ((e0,()),((),()),((e1,e2,e3,e4,e5,()),e6,()))) (c ((),((),()),())) v.1.1 v.2.2.1.1 v.2.2.1.2.1 v.2.2.1.2.2.1 v.2.2.1.2.2.2.1 v.2.2.1.2.2.2.2.1 v.2.2.2.1
theorem aAs (q:iQ):dG (agt q) 102 aqJ (akD q):=kW (al7 q) (h2:=by intros;simp only[al7,QL,bV,bW,bu,bQ,bY])
theorem aEH (q:iQ):dD (agt q) 102 aDF:=nJ [aqJ] (aD (fM (aAs q)) aN)
theorem anu (q:iQ) (H:H48 q):eu (agt q):=eB aN [102] (aD ⟨f102,aDF,by kernel_rfl,by kernel_rfl,aEH q⟩ aN) (hx:=(aD pO (aD kC (aD pR (aD xJ (aD H.2.2.2.1 aN))))))
noncomputable def agl:Code:=(f130.body).getD .skip
noncomputable def ajc:Code:=cA (cA (cA (cB (cB (cB (cB (cB (agl))))))))
noncomputable def x8:Code:=cB (cB (cB (agl)))
def akl:dW:=⟨[0,3,4,100016],[],[0,3],[],[],[]⟩
def yz:dW:=⟨[0,900014],[],[],[],[],[]⟩
def Qw:SQ:=⟨us [.ptr 0 0,.u,.u,.v cO,.v cO] 139,[[.ptr 0 0]],[.box 0 101 [.v nK,.v .str,.slc 1,.v cO,.v cO,.v cO],.arr 1 lG]⟩
def UJ:SQ:=⟨us [.ptr 0 0,.u,.u,.v cO] 140,[[.ptr 0 0]],[.box 0 101 [.v nK,.v .str,.slc 1,.v cO,.v cO,.v cO],.arr 1 lG]⟩
def UU:SQ:=⟨us [] 144,[[.ptr 0 0]],[]⟩
def Lu (q:iQ) {γ:Type} (rec:Int->Int->(List fU)->bM->Int->Int->Int->(List fZ)->Option γ) (kE:Int->(List fU)->bM->Int->Int->Int->(List fZ)->Option γ) (kR:Option γ) (v0 v1:Int) (v2:List fU) (v3:bM) (v4 v5 v6:Int) (v7:List fZ):Option γ:=bz (Xm v2 v3 v7 v4 v5 v6) fun y0=>bif y0.2.1 then bz (adY y0.1.1 y0.1.2.1 y0.1.2.2.1 y0.1.2.2.2.1 y0.1.2.2.2.2.1 y0.1.2.2.2.2.2.1) fun y1=>rec v0 v1 y1.1.1 y1.1.2.1 y1.1.2.2.2.1 y1.1.2.2.2.2.1 y1.1.2.2.2.2.2.1 y1.1.2.2.1 else bif(gU y0.1.2.2.2.1 (bC y0.1.1))then bif(fB y0.1.1 y0.1.2.2.2.1)then bif(bJ (dQ y0.1.1 (0,([],(0,(0,())))) y0.1.2.2.2.1).1 6)then bif(bJ v1 0)then bif(fB y0.1.1 y0.1.2.2.2.1)then bz (ajN (dQ y0.1.1 (0,([],(0,(0,())))) y0.1.2.2.2.1).2.1) fun y1=>bif(gU 0 y1.1)then bz (MM y0.1.1 y0.1.2.1 y0.1.2.2.1 y0.1.2.2.2.1 y0.1.2.2.2.2.1 y0.1.2.2.2.2.2.1 6) fun y2=>rec v0 v1 y2.1.1 y2.1.2.1 y2.1.2.2.2.1 y2.1.2.2.2.2.1 y2.1.2.2.2.2.2.1 y2.1.2.2.1 else bz (MM y0.1.1 y0.1.2.1 y0.1.2.2.1 y0.1.2.2.2.1 y0.1.2.2.2.2.1 y0.1.2.2.2.2.2.1 7) fun y2=>rec v0 (bU .i64 v1 1) y2.1.1 y2.1.2.1 y2.1.2.2.2.1 y2.1.2.2.2.2.1 y2.1.2.2.2.2.2.1 y2.1.2.2.1 else none else bz (MM y0.1.1 y0.1.2.1 y0.1.2.2.1 y0.1.2.2.2.1 y0.1.2.2.2.2.1 y0.1.2.2.2.2.2.1 7) fun y1=>rec v0 (bU .i64 v1 1) y1.1.1 y1.1.2.1 y1.1.2.2.2.1 y1.1.2.2.2.2.1 y1.1.2.2.2.2.2.1 y1.1.2.2.1 else kE v0 y0.1.1 y0.1.2.1 y0.1.2.2.2.1 y0.1.2.2.2.2.1 y0.1.2.2.2.2.2.1 y0.1.2.2.1 else none else kE v0 y0.1.1 y0.1.2.1 y0.1.2.2.2.1 y0.1.2.2.2.2.1 y0.1.2.2.2.2.2.1 y0.1.2.2.1
def AP (q:iQ):Nat->Int->Int->(List fU)->bM->Int->Int->Int->(List fZ)->Option (UJ.den⊕UU.den)
 |0,_,_,_,_,_,_,_,_=>none
 |n+1,v0,v1,v2,v3,v4,v5,v6,v7=>Lu q (AP q n) (fun e0 e1 e2 e3 e4 e5 e6=>some (.inl ((e0,()),((),()),((e1,e2,e3,e4,e5,()),e6,())))) (some (.inr ((),((),()),()))) v0 v1 v2 v3 v4 v5 v6 v7
def auE (q:iQ) (n:Nat) (v:Qw.den):=AP q n v.1.1 v.1.2.1 v.2.2.1.1 v.2.2.1.2.1 v.2.2.1.2.2.1 v.2.2.1.2.2.2.1 v.2.2.1.2.2.2.2.1 v.2.2.2.1
noncomputable def aeR (q:iQ):di:=eX akl Qw UJ UU (.exit 0) (auE q bH) 6
def EF:SQ:=⟨us [.ptr 0 0] 143,[[.ptr 0 0]],[.box 0 101 [.v nK,.v .str,.slc 1,.v cO,.v cO,.v cO],.arr 1 lG]⟩
def vU:SQ:=⟨us [] 144,[[.ptr 0 0]],[.box 0 101 [.v nK,.v .str,.slc 1,.v cO,.v cO,.v cO],.arr 1 lG]⟩
def vY:SQ:=⟨us [] 144,[[.ptr 0 0]],[]⟩
def wC (q:iQ) {γ:Type} (kE:(List fU)->bM->Int->Int->Int->(List fZ)->Option γ) (kR:Option γ) (v0:List fU) (v1:bM) (v2 v3 v4:Int) (v5:List fZ):Option γ:=bz (DK v0 v1 v5 v2 v3 v4 5) fun y0=>bz (AP q bH y0.2.1 0 y0.1.1 y0.1.2.1 y0.1.2.2.2.1 y0.1.2.2.2.2.1 y0.1.2.2.2.2.2.1 y0.1.2.2.1) fun y1=>dE y1 (fun a2=>bz (o8 a2.2.2.1.1 a2.2.2.1.2.1 a2.2.2.2.1 a2.2.2.1.2.2.1 a2.2.2.1.2.2.2.1 a2.2.2.1.2.2.2.2.1 a2.1.1) fun y3=>kE y3.1.1 y3.1.2.1 y3.1.2.2.2.1 y3.1.2.2.2.2.1 y3.1.2.2.2.2.2.1 y3.1.2.2.1) (fun b2=>kR)
def l9 (q:iQ) (v0:List fU) (v1:bM) (v2 v3 v4:Int) (v5:List fZ):Option (vU.den⊕vY.den):=wC q (fun e0 e1 e2 e3 e4 e5=>some (.inl ((),((),()),((e0,e1,e2,e3,e4,()),e5,())))) (some (.inr ((),((),()),()))) v0 v1 v2 v3 v4 v5
noncomputable def KC (q:iQ):di:=eX yz EF vU vY (.exit 999999) (fun v=>l9 q v.2.2.1.1 v.2.2.1.2.1 v.2.2.1.2.2.1 v.2.2.1.2.2.2.1 v.2.2.1.2.2.2.2.1 v.2.2.2.1) 12
def FT (q:iQ) (y2:(taF×oP)):Option Jp:=bz (l9 q y2.1.1 y2.1.2.1 y2.1.2.2.2.1 y2.1.2.2.2.2.1 y2.1.2.2.2.2.2.1 y2.1.2.2.1) fun y4=>dE y4 (fun a5=>some ((a5.2.2.1.1,(a5.2.2.1.2.1,(a5.2.2.2.1,(a5.2.2.1.2.2.1,(a5.2.2.1.2.2.2.1,(a5.2.2.1.2.2.2.2.1,())))))),())) (fun b5=>none)
def asP (q:iQ) (x0:List fU) (x1:bM) (x2:List fZ) (x3 x4 x5:Int):Option Jp:=bz (ati x0 x1 x2 x3 x4 x5) fun y0=>bif(!y0.2.1)then bz (uA y0.1.1 y0.1.2.1 y0.1.2.2.1 y0.1.2.2.2.1 y0.1.2.2.2.2.1 y0.1.2.2.2.2.2.1) fun y1=>some ((y1.1.1,(y1.1.2.1,(y1.1.2.2.1,(y1.1.2.2.2.1,(y1.1.2.2.2.2.1,(y1.1.2.2.2.2.2.1,())))))),())else bz (Tv y0.1.1 y0.1.2.1 y0.1.2.2.1 y0.1.2.2.2.1 y0.1.2.2.2.2.1 y0.1.2.2.2.2.2.1) fun y1=>bif y1.2.1 then bz (q.q163 y1.1.1 y1.1.2.1 y1.1.2.2.1 y1.1.2.2.2.1 y1.1.2.2.2.2.1 y1.1.2.2.2.2.2.1) fun y2=>some ((y2.1.1,(y2.1.2.1,(y2.1.2.2.1,(y2.1.2.2.2.1,(y2.1.2.2.2.2.1,(y2.1.2.2.2.2.2.1,())))))),())else bz (nI y1.1.1 y1.1.2.1 y1.1.2.2.1 y1.1.2.2.2.1 y1.1.2.2.2.2.1 y1.1.2.2.2.2.2.1 [120]) fun y2=>bif y2.2.1 then bif(gU (bU .i64 y2.1.2.2.2.1 1) (bC y2.1.2.1))then bif(fB y2.1.2.1 (bU .i64 y2.1.2.2.2.1 1))then bif(bJ (bT y2.1.2.1 (bU .i64 y2.1.2.2.2.1 1)) 40)then bif(gU y2.1.2.2.2.2.2.1 200)then bif(fB y2.1.1 y2.1.2.2.2.1)then bz (TA (dQ y2.1.1 (0,([],(0,(0,())))) y2.1.2.2.2.1).2.1) fun y3=>bif y3.1 then bz (DK y2.1.1 y2.1.2.1 y2.1.2.2.1 y2.1.2.2.2.1 y2.1.2.2.2.2.1 y2.1.2.2.2.2.2.1 16) fun y4=>bz (MM y4.1.1 y4.1.2.1 y4.1.2.2.1 y4.1.2.2.2.1 y4.1.2.2.2.2.1 y4.1.2.2.2.2.2.1 7) fun y5=>bz (mF y5.1.1 y5.1.2.1 y5.1.2.2.1 (bU .i64 y5.1.2.2.2.1 1) y5.1.2.2.2.2.1 y5.1.2.2.2.2.2.1 [41]) fun y6=>bz (rV y6.1.1 y6.1.2.1 y6.1.2.2.1 y6.1.2.2.2.1 y6.1.2.2.2.2.1 y6.1.2.2.2.2.2.1) fun y7=>bz (Tv y7.1.1 y7.1.2.1 y7.1.2.2.1 y7.1.2.2.2.1 y7.1.2.2.2.2.1 y7.1.2.2.2.2.2.1) fun y8=>bif y8.2.1 then bz (q.q163 y8.1.1 y8.1.2.1 y8.1.2.2.1 y8.1.2.2.2.1 y8.1.2.2.2.2.1 y8.1.2.2.2.2.2.1) fun y9=>bz (o8 y9.1.1 y9.1.2.1 y9.1.2.2.1 y9.1.2.2.2.1 y9.1.2.2.2.2.1 y9.1.2.2.2.2.2.1 y4.2.1) fun y10=>some ((y10.1.1,(y10.1.2.1,(y10.1.2.2.1,(y10.1.2.2.2.1,(y10.1.2.2.2.2.1,(y10.1.2.2.2.2.2.1,())))))),())else bz (uA y8.1.1 y8.1.2.1 y8.1.2.2.1 y8.1.2.2.2.1 y8.1.2.2.2.2.1 y8.1.2.2.2.2.2.1) fun y9=>bz (o8 y9.1.1 y9.1.2.1 y9.1.2.2.1 y9.1.2.2.2.1 y9.1.2.2.2.2.1 y9.1.2.2.2.2.2.1 y4.2.1) fun y10=>some ((y10.1.1,(y10.1.2.1,(y10.1.2.2.1,(y10.1.2.2.2.1,(y10.1.2.2.2.2.1,(y10.1.2.2.2.2.2.1,())))))),())else FT q y2 else none else FT q y2 else FT q y2 else none else FT q y2 else FT q y2
noncomputable def II (q:iQ):Env:=gy prog tt [(164,VA),(167,axa)] [(130,16,akl),(130,800014,yz)] [(130,16,aeR q),(130,800014,KC q)] [] [(45,PV),(46,Il),(49,am4),(50,PW),(78,aDb),(80,PX),(100,aiP),(101,awT),(103,Vz),(163,amS q),(165,VB),(166,aiU)]
def afx (q:iQ) {γ:Type} (a:Qw.den->Option γ) (b:UJ.den->Option γ) (c:UU.den->Option γ) (v:Qw.den):Option γ:=Lu q (fun v0 v1 v2 v3 v4 v5 v6 v7=>a ((v0,v1,()),((),()),((v2,v3,v4,v5,v6,()),v7,()))) (fun e0 e1 e2 e3 e4 e5 e6=>b ((e0,()),((),()),((e1,e2,e3,e4,e5,()),e6,()))) (c ((),((),()),())) v.1.1 v.1.2.1 v.2.2.1.1 v.2.2.1.2.1 v.2.2.1.2.2.1 v.2.2.1.2.2.2.1 v.2.2.1.2.2.2.2.1 v.2.2.2.1
theorem avs (q:iQ):dG (II q) 130 ajc (aeR q):=kW (afx q) (h2:=by intros;simp only[afx,Lu,bV,bW,bu,bQ,bY])
theorem Vo (q:iQ) {R:Type} (d:Nat) (K:Ex->St->Option R) (v0:List fU) (v1:bM) (v2 v3 v4:Int) (v5:List fZ):
  iter (some yz) (BM (xU (II q) (d+12) 130 x8)) 1 (mG EF ((),((),()),((v0,v1,v2,v3,v4,()),v5,()))) K=
   wC q (fun e0 e1 e2 e3 e4 e5=>K (.exit 999999) (mG vU ((),((),()),((e0,e1,e2,e3,e4,()),e5,())))) (K .ret (mG vY ((),((),()),()))) v0 v1 v2 v3 v4 v5:=by kernel_rfl
theorem ZB (q:iQ) {R:Type} (d:Nat) (K:Ex->St->Option R) (v0:List fU) (v1:bM) (v2 v3 v4:Int) (v5:List fZ):
  iter (some yz) (BM (xU (II q) (d+12) 130 x8)) 1 (mG EF ((),((),()),((v0,v1,v2,v3,v4,()),v5,()))) K=bz (l9 q v0 v1 v2 v3 v4 v5) fun o=>dE o (fun a=>K (.exit 999999) (mG vU a)) fun b=>K .ret (mG vY b):=by
  rw[Vo];simp only[l9,wC,bV,bW,bu,bQ,bY]
  try simp only[dE]
theorem aab (q:iQ):xZ (II q) 130 x8 (KC q):=anr (by kernel_rfl) fun R d K v o h=>⟨1,(ZB q d K (v.2.2.1.1) (v.2.2.1.2.1) (v.2.2.1.2.2.1) (v.2.2.1.2.2.2.1) (v.2.2.1.2.2.2.2.1) (v.2.2.2.1)).trans (congrArg (fun o=>bz o _) h)⟩
theorem aEz:iW agl=[ajc]:=by kernel_rfl
theorem aDS (q:iQ):Gf (II q) 130 agl=[x8]:=by kernel_rfl
theorem aEN (q:iQ):dD (II q) 130 agl:=yG agl (fun x _ hx=>absurd (show false=true from hx) (by decide)) (by rw[aEz];exact(aD (fM (avs q)) aN)) (BZ (by rw[aDS];exact(aD (fC (by kernel_rfl) (aab q)) aN)))
theorem anB (q:iQ) (H:H48 q):eu (II q):=eB (aD GZ (aD apG aN)) [130] (aD ⟨f130,agl,by kernel_rfl,by kernel_rfl,aEN q⟩ aN) (hx:=(aD pO (aD kC (aD LW (aD pR (aD afS (aD xJ (aD Oa (aD Yk (aD wS (aD H.2.2.2.2.2.2.1 (aD G5 (aD Yv aN)))))))))))))
def asT (q:iQ) (x0:List fU) (x1:bM) (x2:List fZ) (x3 x4 x5:Int):Option Jp:=bz (rV x0 x1 x2 x3 x4 x5) fun y0=>bz (P7 y0.1.1 y0.1.2.1 y0.1.2.2.1 y0.1.2.2.2.1 y0.1.2.2.2.2.1 y0.1.2.2.2.2.2.1) fun y1=>bif y1.2.1 then bz (q.q48 y1.1.1 y1.1.2.1 y1.1.2.2.1 y1.1.2.2.2.1 y1.1.2.2.2.2.1 y1.1.2.2.2.2.2.1) fun y2=>some ((y2.1.1,(y2.1.2.1,(y2.1.2.2.1,(y2.1.2.2.2.1,(y2.1.2.2.2.2.1,(y2.1.2.2.2.2.2.1,())))))),())else bz (uA y1.1.1 y1.1.2.1 y1.1.2.2.1 y1.1.2.2.2.1 y1.1.2.2.2.2.1 y1.1.2.2.2.2.2.1) fun y2=>some ((y2.1.1,(y2.1.2.1,(y2.1.2.2.1,(y2.1.2.2.2.1,(y2.1.2.2.2.2.1,(y2.1.2.2.2.2.2.1,())))))),())
noncomputable def aD2 (q:iQ):Env:=gy prog tt [] [] [] [] [(47,YB),(48,aiX q),(80,PX),(103,Vz)]
theorem anW (q:iQ) (H:H48 q):eu (aD2 q):=eB aN [] aN (hx:=(aD Fp (aD H.1 (aD xJ (aD wS aN)))))
def asU (q:iQ) (x0:List fU) (x1:bM) (x2:List fZ) (x3 x4 x5:Int):Option Jp:=bz (mF x0 x1 x2 x3 x4 x5 [100]) fun y0=>bz (q.q194 y0.1.1 y0.1.2.1 y0.1.2.2.1 y0.1.2.2.2.1 y0.1.2.2.2.2.1 y0.1.2.2.2.2.2.1) fun y1=>bz (mF y1.1.1 y1.1.2.1 y1.1.2.2.1 y1.1.2.2.2.1 y1.1.2.2.2.2.1 y1.1.2.2.2.2.2.1 [103]) fun y2=>some ((y2.1.1,(y2.1.2.1,(y2.1.2.2.1,(y2.1.2.2.2.1,(y2.1.2.2.2.2.1,(y2.1.2.2.2.2.2.1,())))))),())
noncomputable def aD3 (q:iQ):Env:=gy prog tt [] [] [] [] [(165,VB),(194,ac0 q)]
theorem anX (q:iQ) (H:H48 q):eu (aD3 q):=eB aN [] aN (hx:=(aD G5 (aD H.2.2.2.2.1 aN)))
noncomputable def aqD:Code:=(f163.body).getD .skip
noncomputable def aqX:Code:=cA (cA (cB (cA (cB (cB (aqD))))))
noncomputable def ajd:Code:=cA (cA (cA (cB (cB (cB (cA (cB (cB (cB (cB (cB (cA (cB (cA (cB (cB (cB (cB (cB (aqD))))))))))))))))))))
noncomputable def aje:Code:=cA (cA (cA (cB (cB (cB (cB (cB (cB (aqD)))))))))
def atT:dW:=⟨[0,2,3,4,100003],[],[0,3],[],[],[]⟩
def akm:dW:=⟨[0,5,100020],[],[0,5],[],[],[]⟩
def akn:dW:=⟨[0,5,100036],[],[0,5],[],[],[]⟩
def aay:SQ:=⟨us [.ptr 0 0,.u,.v (.int .u8),.v cO,.v cO] 103,[[.ptr 0 0]],[.box 0 101 [.v nK,.v .str,.slc 1,.v cO,.v cO,.v cO],.arr 1 lG]⟩
def aa6:SQ:=⟨us [.ptr 0 0,.u,.u,.v cO] 104,[[.ptr 0 0]],[.box 0 101 [.v nK,.v .str,.slc 1,.v cO,.v cO,.v cO],.arr 1 lG]⟩
def abL:SQ:=⟨us [] 108,[[.ptr 0 0]],[]⟩
def acv (q:iQ) {γ:Type} (rec:Int->Int->Int->(List fU)->bM->Int->Int->Int->(List fZ)->Option γ) (kE:Int->(List fU)->bM->Int->Int->Int->(List fZ)->Option γ) (kR:Option γ) (v0 v1 v2:Int) (v3:List fU) (v4:bM) (v5 v6 v7:Int) (v8:List fZ):Option γ:=bif(gU v2 6)then bif(fB [123,40,105,119,114,99] v2)then bif(bJ (bT [123,40,105,119,114,99] v2) v0)then rec v0 (bU .i64 9 v2) (bU .i64 v2 1) v3 v4 v5 v6 v7 v8 else rec v0 v1 (bU .i64 v2 1) v3 v4 v5 v6 v7 v8 else none else kE v1 v3 v4 v5 v6 v7 v8
def vK (q:iQ):Nat->Int->Int->Int->(List fU)->bM->Int->Int->Int->(List fZ)->Option (aa6.den⊕abL.den)
 |0,_,_,_,_,_,_,_,_,_=>none
 |n+1,v0,v1,v2,v3,v4,v5,v6,v7,v8=>acv q (vK q n) (fun e0 e1 e2 e3 e4 e5 e6=>some (.inl ((e0,()),((),()),((e1,e2,e3,e4,e5,()),e6,())))) (some (.inr ((),((),()),()))) v0 v1 v2 v3 v4 v5 v6 v7 v8
def az2 (q:iQ) (n:Nat) (v:aay.den):=vK q n v.1.1 v.1.2.1 v.1.2.2.1 v.2.2.1.1 v.2.2.1.2.1 v.2.2.1.2.2.1 v.2.2.1.2.2.2.1 v.2.2.1.2.2.2.2.1 v.2.2.2.1
noncomputable def akR (q:iQ):di:=eX atT aay aa6 abL (.exit 0) (az2 q bH) 6
def Qy:SQ:=⟨us [.ptr 0 0,.u,.u,.u,.u,.v cO] 102,[[.ptr 0 0]],[.box 0 101 [.v nK,.v .str,.slc 1,.v cO,.v cO,.v cO],.arr 1 lG]⟩
def KU:SQ:=⟨us [.ptr 0 0,.u,.u,.u,.u,.v cO] 102,[[.ptr 0 0]],[.box 0 101 [.v nK,.v .str,.slc 1,.v cO,.v cO,.v cO],.arr 1 lG]⟩
def KY:SQ:=⟨us [] 108,[[.ptr 0 0]],[]⟩
def LG (q:iQ) {γ:Type} (rec kE:Int->(List fU)->bM->Int->Int->Int->(List fZ)->Option γ) (kR:Option γ) (v0:Int) (v1:List fU) (v2:bM) (v3 v4 v5:Int) (v6:List fZ):Option γ:=bz (Xm v1 v2 v6 v3 v4 v5) fun y0=>bif y0.2.1 then bz (adY y0.1.1 y0.1.2.1 y0.1.2.2.1 y0.1.2.2.2.1 y0.1.2.2.2.2.1 y0.1.2.2.2.2.2.1) fun y1=>rec v0 y1.1.1 y1.1.2.1 y1.1.2.2.2.1 y1.1.2.2.2.2.1 y1.1.2.2.2.2.2.1 y1.1.2.2.1 else kE v0 y0.1.1 y0.1.2.1 y0.1.2.2.2.1 y0.1.2.2.2.2.1 y0.1.2.2.2.2.2.1 y0.1.2.2.1
def jc (q:iQ):Nat->Int->(List fU)->bM->Int->Int->Int->(List fZ)->Option (KU.den⊕KY.den)
 |0,_,_,_,_,_,_,_=>none
 |n+1,v0,v1,v2,v3,v4,v5,v6=>LG q (jc q n) (fun e0 e1 e2 e3 e4 e5 e6=>some (.inl ((e0,()),((),()),((e1,e2,e3,e4,e5,()),e6,())))) (some (.inr ((),((),()),()))) v0 v1 v2 v3 v4 v5 v6
def auG (q:iQ) (n:Nat) (v:Qy.den):=jc q n v.1.1 v.2.2.1.1 v.2.2.1.2.1 v.2.2.1.2.2.1 v.2.2.1.2.2.2.1 v.2.2.1.2.2.2.2.1 v.2.2.2.1
noncomputable def aeT (q:iQ):di:=eX akn Qy KU KY (.exit 5) (auG q bH) 12
def Qx:SQ:=⟨us [.ptr 0 0,.u,.u,.u,.u,.v cO] 102,[[.ptr 0 0]],[.box 0 101 [.v nK,.v .str,.slc 1,.v cO,.v cO,.v cO],.arr 1 lG]⟩
def UK:SQ:=⟨us [.ptr 0 0,.u,.u,.u,.u,.v cO] 102,[[.ptr 0 0]],[.box 0 101 [.v nK,.v .str,.slc 1,.v cO,.v cO,.v cO],.arr 1 lG]⟩
def UV:SQ:=⟨us [] 108,[[.ptr 0 0]],[]⟩
def LD (q:iQ) {γ:Type} (rec kE:Int->(List fU)->bM->Int->Int->Int->(List fZ)->Option γ) (kR:Option γ) (v0:Int) (v1:List fU) (v2:bM) (v3 v4 v5:Int) (v6:List fZ):Option γ:=bz (nI v1 v2 v6 v3 v4 v5 [101]) fun y0=>bif y0.2.1 then bz (q.q194 y0.1.1 y0.1.2.1 y0.1.2.2.1 (bU .i64 y0.1.2.2.2.1 1) y0.1.2.2.2.2.1 y0.1.2.2.2.2.2.1) fun y1=>bz (mF y1.1.1 y1.1.2.1 y1.1.2.2.1 y1.1.2.2.2.1 y1.1.2.2.2.2.1 y1.1.2.2.2.2.2.1 [116]) fun y2=>bz (q.q194 y2.1.1 y2.1.2.1 y2.1.2.2.1 y2.1.2.2.2.1 y2.1.2.2.2.2.1 y2.1.2.2.2.2.2.1) fun y3=>rec v0 y3.1.1 y3.1.2.1 y3.1.2.2.2.1 y3.1.2.2.2.2.1 y3.1.2.2.2.2.2.1 y3.1.2.2.1 else kE v0 y0.1.1 y0.1.2.1 y0.1.2.2.2.1 y0.1.2.2.2.2.1 y0.1.2.2.2.2.2.1 y0.1.2.2.1
def AQ (q:iQ):Nat->Int->(List fU)->bM->Int->Int->Int->(List fZ)->Option (UK.den⊕UV.den)
 |0,_,_,_,_,_,_,_=>none
 |n+1,v0,v1,v2,v3,v4,v5,v6=>LD q (AQ q n) (fun e0 e1 e2 e3 e4 e5 e6=>some (.inl ((e0,()),((),()),((e1,e2,e3,e4,e5,()),e6,())))) (some (.inr ((),((),()),()))) v0 v1 v2 v3 v4 v5 v6
def auF (q:iQ) (n:Nat) (v:Qx.den):=AQ q n v.1.1 v.2.2.1.1 v.2.2.1.2.1 v.2.2.1.2.2.1 v.2.2.1.2.2.2.1 v.2.2.1.2.2.2.2.1 v.2.2.2.1
noncomputable def aeS (q:iQ):di:=eX akm Qx UK UV (.exit 3) (auF q bH) 18
def ny (y5:KU.den⊕KY.den):Option Jp:=dE y5 (fun a6=>bz (o8 a6.2.2.1.1 a6.2.2.1.2.1 a6.2.2.2.1 a6.2.2.1.2.2.1 a6.2.2.1.2.2.2.1 a6.2.2.1.2.2.2.2.1 a6.1.1) fun y7=>some ((y7.1.1,(y7.1.2.1,(y7.1.2.2.1,(y7.1.2.2.2.1,(y7.1.2.2.2.2.1,(y7.1.2.2.2.2.2.1,())))))),())) (fun b6=>none)
def Ak (q:iQ) (x0:List fU) (x1:bM) (x2:List fZ) (x3 x4 x5:Int):Option Jp:=bif(fB x1 x3)then bz (vK q bH (bT x1 x3) 9 0 x0 x1 x3 x4 x5 x2) fun y0=>dE y0 (fun a1=>bz (DK a1.2.2.1.1 a1.2.2.1.2.1 a1.2.2.2.1 a1.2.2.1.2.2.1 a1.2.2.1.2.2.2.1 a1.2.2.1.2.2.2.2.1 a1.1.1) fun y2=>bif(bJ a1.1.1 9)then bz (q.q194 y2.1.1 y2.1.2.1 y2.1.2.2.1 (bU .i64 y2.1.2.2.2.1 1) y2.1.2.2.2.2.1 y2.1.2.2.2.2.2.1) fun y3=>bz (mF y3.1.1 y3.1.2.1 y3.1.2.2.1 y3.1.2.2.2.1 y3.1.2.2.2.2.1 y3.1.2.2.2.2.2.1 [125]) fun y4=>bz (jc q bH y2.2.1 y4.1.1 y4.1.2.1 y4.1.2.2.2.1 y4.1.2.2.2.2.1 y4.1.2.2.2.2.2.1 y4.1.2.2.1) fun y5=>ny y5 else bif(bJ a1.1.1 10)then bz (q.q194 y2.1.1 y2.1.2.1 y2.1.2.2.1 (bU .i64 y2.1.2.2.2.1 1) y2.1.2.2.2.2.1 y2.1.2.2.2.2.2.1) fun y3=>bz (mF y3.1.1 y3.1.2.1 y3.1.2.2.1 y3.1.2.2.2.1 y3.1.2.2.2.2.1 y3.1.2.2.2.2.2.1 [41]) fun y4=>bz (jc q bH y2.2.1 y4.1.1 y4.1.2.1 y4.1.2.2.2.1 y4.1.2.2.2.2.1 y4.1.2.2.2.2.2.1 y4.1.2.2.1) fun y5=>ny y5 else bif(bJ a1.1.1 11)then bz (q.q194 y2.1.1 y2.1.2.1 y2.1.2.2.1 (bU .i64 y2.1.2.2.2.1 1) y2.1.2.2.2.2.1 y2.1.2.2.2.2.2.1) fun y3=>bz (mF y3.1.1 y3.1.2.1 y3.1.2.2.1 y3.1.2.2.2.1 y3.1.2.2.2.2.1 y3.1.2.2.2.2.2.1 [116]) fun y4=>bz (q.q194 y4.1.1 y4.1.2.1 y4.1.2.2.1 y4.1.2.2.2.1 y4.1.2.2.2.2.1 y4.1.2.2.2.2.2.1) fun y5=>bz (AQ q bH y2.2.1 y5.1.1 y5.1.2.1 y5.1.2.2.2.1 y5.1.2.2.2.2.1 y5.1.2.2.2.2.2.1 y5.1.2.2.1) fun y6=>dE y6 (fun a7=>bz (nI a7.2.2.1.1 a7.2.2.1.2.1 a7.2.2.2.1 a7.2.2.1.2.2.1 a7.2.2.1.2.2.2.1 a7.2.2.1.2.2.2.2.1 [108]) fun y8=>bif y8.2.1 then bz (q.q194 y8.1.1 y8.1.2.1 y8.1.2.2.1 (bU .i64 y8.1.2.2.2.1 1) y8.1.2.2.2.2.1 y8.1.2.2.2.2.2.1) fun y9=>bz (mF y9.1.1 y9.1.2.1 y9.1.2.2.1 y9.1.2.2.2.1 y9.1.2.2.2.2.1 y9.1.2.2.2.2.2.1 [102]) fun y10=>bz (jc q bH a7.1.1 y10.1.1 y10.1.2.1 y10.1.2.2.2.1 y10.1.2.2.2.2.1 y10.1.2.2.2.2.2.1 y10.1.2.2.1) fun y11=>ny y11 else bz (mF y8.1.1 y8.1.2.1 y8.1.2.2.1 y8.1.2.2.2.1 y8.1.2.2.2.2.1 y8.1.2.2.2.2.2.1 [102]) fun y9=>bz (jc q bH a7.1.1 y9.1.1 y9.1.2.1 y9.1.2.2.2.1 y9.1.2.2.2.2.1 y9.1.2.2.2.2.2.1 y9.1.2.2.1) fun y10=>ny y10) (fun b7=>none)else bif(bJ a1.1.1 12)then bz (q.q194 y2.1.1 y2.1.2.1 y2.1.2.2.1 (bU .i64 y2.1.2.2.2.1 1) y2.1.2.2.2.2.1 y2.1.2.2.2.2.2.1) fun y3=>bz (q.q195 y3.1.1 y3.1.2.1 y3.1.2.2.1 y3.1.2.2.2.1 y3.1.2.2.2.2.1 y3.1.2.2.2.2.2.1) fun y4=>bz (jc q bH y2.2.1 y4.1.1 y4.1.2.1 y4.1.2.2.2.1 y4.1.2.2.2.2.1 y4.1.2.2.2.2.2.1 y4.1.2.2.1) fun y5=>ny y5 else bif(bJ a1.1.1 13)then bz (q.q196 y2.1.1 y2.1.2.1 y2.1.2.2.1 (bU .i64 y2.1.2.2.2.1 1) y2.1.2.2.2.2.1 y2.1.2.2.2.2.2.1) fun y3=>bz (jc q bH y2.2.1 y3.1.1 y3.1.2.1 y3.1.2.2.2.1 y3.1.2.2.2.2.1 y3.1.2.2.2.2.2.1 y3.1.2.2.1) fun y4=>ny y4 else bif(bJ a1.1.1 14)then bz (q.q197 y2.1.1 y2.1.2.1 y2.1.2.2.1 (bU .i64 y2.1.2.2.2.1 1) y2.1.2.2.2.2.1 y2.1.2.2.2.2.2.1) fun y3=>bz (jc q bH y2.2.1 y3.1.1 y3.1.2.1 y3.1.2.2.2.1 y3.1.2.2.2.2.1 y3.1.2.2.2.2.2.1 y3.1.2.2.1) fun y4=>ny y4 else bz (jc q bH y2.2.1 y2.1.1 y2.1.2.1 (bU .i64 y2.1.2.2.2.1 1) y2.1.2.2.2.2.1 y2.1.2.2.2.2.2.1 y2.1.2.2.1) fun y3=>ny y3) (fun b1=>none)else none
noncomputable def SX (q:iQ):Env:=gy prog tt [] [(163,3,atT),(163,20,akm),(163,36,akn)] [(163,3,akR q),(163,36,aeT q),(163,20,aeS q)] [] [(45,PV),(46,Il),(50,PW),(100,aiP),(165,VB),(166,aiU),(194,ac0 q),(195,ac1 q),(196,amU q),(197,amV q)]
def aml (q:iQ) {γ:Type} (a:aay.den->Option γ) (b:aa6.den->Option γ) (c:abL.den->Option γ) (v:aay.den):Option γ:=acv q (fun v0 v1 v2 v3 v4 v5 v6 v7 v8=>a ((v0,v1,v2,()),((),()),((v3,v4,v5,v6,v7,()),v8,()))) (fun e0 e1 e2 e3 e4 e5 e6=>b ((e0,()),((),()),((e1,e2,e3,e4,e5,()),e6,()))) (c ((),((),()),())) v.1.1 v.1.2.1 v.1.2.2.1 v.2.2.1.1 v.2.2.1.2.1 v.2.2.1.2.2.1 v.2.2.1.2.2.2.1 v.2.2.1.2.2.2.2.1 v.2.2.2.1
theorem aAG (q:iQ):dG (SX q) 163 aqX (akR q):=kW (aml q) (h2:=by intros;simp only[aml,acv,bV,bW,bu,bQ,bY])
def afz (q:iQ) {γ:Type} (a:Qy.den->Option γ) (b:KU.den->Option γ) (c:KY.den->Option γ) (v:Qy.den):Option γ:=LG q (fun v0 v1 v2 v3 v4 v5 v6=>a ((v0,()),((),()),((v1,v2,v3,v4,v5,()),v6,()))) (fun e0 e1 e2 e3 e4 e5 e6=>b ((e0,()),((),()),((e1,e2,e3,e4,e5,()),e6,()))) (c ((),((),()),())) v.1.1 v.2.2.1.1 v.2.2.1.2.1 v.2.2.1.2.2.1 v.2.2.1.2.2.2.1 v.2.2.1.2.2.2.2.1 v.2.2.2.1
theorem avu (q:iQ):dG (SX q) 163 aje (aeT q):=kW (afz q) (h2:=by intros;simp only[afz,LG,bV,bW,bu,bQ,bY])
def afy (q:iQ) {γ:Type} (a:Qx.den->Option γ) (b:UK.den->Option γ) (c:UV.den->Option γ) (v:Qx.den):Option γ:=LD q (fun v0 v1 v2 v3 v4 v5 v6=>a ((v0,()),((),()),((v1,v2,v3,v4,v5,()),v6,()))) (fun e0 e1 e2 e3 e4 e5 e6=>b ((e0,()),((),()),((e1,e2,e3,e4,e5,()),e6,()))) (c ((),((),()),())) v.1.1 v.2.2.1.1 v.2.2.1.2.1 v.2.2.1.2.2.1 v.2.2.1.2.2.2.1 v.2.2.1.2.2.2.2.1 v.2.2.2.1
theorem avt (q:iQ):dG (SX q) 163 ajd (aeS q):=kW (afy q) (h2:=by intros;simp only[afy,LD,bV,bW,bu,bQ,bY])
theorem aEZ (q:iQ):dD (SX q) 163 aqD:=nJ [aqX,ajd,aje] (aD (fM (aAG q)) (aD (fM (avt q)) (aD (fM (avu q)) aN)))
theorem anP (q:iQ) (H:H48 q):eu (SX q):=eB aN [163] (aD ⟨f163,aqD,by kernel_rfl,by kernel_rfl,aEZ q⟩ aN) (hx:=(aD pO (aD kC (aD pR (aD Oa (aD G5 (aD Yv (aD H.2.2.2.2.1 (aD H.2.2.2.2.2.1 (aD H.2.2.2.2.2.2.2.1 (aD H.2.2.2.2.2.2.2.2 aN)))))))))))
noncomputable def aDM:Code:=(f196.body).getD .skip
noncomputable def aq2:Code:=cA (cA (cA (cB (cA (cB (cB (cB (cB (cA (cB (aDM)))))))))))
def atW:dW:=⟨[0,100009],[],[0],[],[],[]⟩
def aaE:SQ:=⟨us [.ptr 0 0] 112,[[.ptr 0 0]],[.box 0 101 [.v nK,.v .str,.slc 1,.v cO,.v cO,.v cO],.arr 1 lG]⟩
def abd:SQ:=⟨us [.ptr 0 0] 112,[[.ptr 0 0]],[.box 0 101 [.v nK,.v .str,.slc 1,.v cO,.v cO,.v cO],.arr 1 lG]⟩
def abR:SQ:=⟨us [] 113,[[.ptr 0 0]],[]⟩
def Q4 (q:iQ) {γ:Type} (rec kE:(List fU)->bM->Int->Int->Int->(List fZ)->Option γ) (kR:Option γ) (v0:List fU) (v1:bM) (v2 v3 v4:Int) (v5:List fZ):Option γ:=bif(gU v2 (bC v0))then bif(fB v0 v2)then bif(bJ (dQ v0 (0,([],(0,(0,())))) v2).1 6)then bz (MM v0 v1 v5 v2 v3 v4 7) fun y0=>rec y0.1.1 y0.1.2.1 y0.1.2.2.2.1 y0.1.2.2.2.2.1 y0.1.2.2.2.2.2.1 y0.1.2.2.1 else kE v0 v1 v2 v3 v4 v5 else none else kE v0 v1 v2 v3 v4 v5
def Gq (q:iQ):Nat->(List fU)->bM->Int->Int->Int->(List fZ)->Option (abd.den⊕abR.den)
 |0,_,_,_,_,_,_=>none
 |n+1,v0,v1,v2,v3,v4,v5=>Q4 q (Gq q n) (fun e0 e1 e2 e3 e4 e5=>some (.inl ((),((),()),((e0,e1,e2,e3,e4,()),e5,())))) (some (.inr ((),((),()),()))) v0 v1 v2 v3 v4 v5
def az8 (q:iQ) (n:Nat) (v:aaE.den):=Gq q n v.2.2.1.1 v.2.2.1.2.1 v.2.2.1.2.2.1 v.2.2.1.2.2.2.1 v.2.2.1.2.2.2.2.1 v.2.2.2.1
noncomputable def akW (q:iQ):di:=eX atW aaE abd abR (.exit 0) (az8 q bH) 6
def JP (y1:Jp) (q:iQ):Option Jp:=bz (nI y1.1.1 y1.1.2.1 y1.1.2.2.1 y1.1.2.2.2.1 y1.1.2.2.2.2.1 y1.1.2.2.2.2.2.1 [59]) fun y2=>bif y2.2.1 then bz (rV y2.1.1 y2.1.2.1 y2.1.2.2.1 (bU .i64 y2.1.2.2.2.1 1) y2.1.2.2.2.2.1 y2.1.2.2.2.2.2.1) fun y3=>bz (q.q195 y3.1.1 y3.1.2.1 y3.1.2.2.1 y3.1.2.2.2.1 y3.1.2.2.2.2.1 y3.1.2.2.2.2.2.1) fun y4=>some ((y4.1.1,(y4.1.2.1,(y4.1.2.2.1,(y4.1.2.2.2.1,(y4.1.2.2.2.2.1,(y4.1.2.2.2.2.2.1,())))))),())else bz (rV y2.1.1 y2.1.2.1 y2.1.2.2.1 y2.1.2.2.2.1 y2.1.2.2.2.2.1 y2.1.2.2.2.2.2.1) fun y3=>bz (nI y3.1.1 y3.1.2.1 y3.1.2.2.1 y3.1.2.2.2.1 y3.1.2.2.2.2.1 y3.1.2.2.2.2.2.1 [107]) fun y4=>bif y4.2.1 then bz (Gq q bH y4.1.1 y4.1.2.1 (bU .i64 y4.1.2.2.2.1 1) y4.1.2.2.2.2.1 y4.1.2.2.2.2.2.1 y4.1.2.2.1) fun y5=>dE y5 (fun a6=>bz (nI a6.2.2.1.1 a6.2.2.1.2.1 a6.2.2.2.1 a6.2.2.1.2.2.1 a6.2.2.1.2.2.2.1 a6.2.2.1.2.2.2.2.1 [59]) fun y7=>bif y7.2.1 then bz (rV y7.1.1 y7.1.2.1 y7.1.2.2.1 (bU .i64 y7.1.2.2.2.1 1) y7.1.2.2.2.2.1 y7.1.2.2.2.2.2.1) fun y8=>bz (q.q195 y8.1.1 y8.1.2.1 y8.1.2.2.1 y8.1.2.2.2.1 y8.1.2.2.2.2.1 y8.1.2.2.2.2.2.1) fun y9=>some ((y9.1.1,(y9.1.2.1,(y9.1.2.2.1,(y9.1.2.2.2.1,(y9.1.2.2.2.2.1,(y9.1.2.2.2.2.2.1,())))))),())else bz (rV y7.1.1 y7.1.2.1 y7.1.2.2.1 y7.1.2.2.2.1 y7.1.2.2.2.2.1 y7.1.2.2.2.2.2.1) fun y8=>bif(bJ y8.2.1 0)then bz (uA y8.1.1 y8.1.2.1 y8.1.2.2.1 y8.1.2.2.2.1 y8.1.2.2.2.2.1 y8.1.2.2.2.2.2.1) fun y9=>bz (q.q195 y9.1.1 y9.1.2.1 y9.1.2.2.1 y9.1.2.2.2.1 y9.1.2.2.2.2.1 y9.1.2.2.2.2.2.1) fun y10=>some ((y10.1.1,(y10.1.2.1,(y10.1.2.2.1,(y10.1.2.2.2.1,(y10.1.2.2.2.2.1,(y10.1.2.2.2.2.2.1,())))))),())else bz (q.q195 y8.1.1 y8.1.2.1 y8.1.2.2.1 y8.1.2.2.2.1 y8.1.2.2.2.2.1 y8.1.2.2.2.2.2.1) fun y9=>some ((y9.1.1,(y9.1.2.1,(y9.1.2.2.1,(y9.1.2.2.2.1,(y9.1.2.2.2.2.1,(y9.1.2.2.2.2.2.1,())))))),())) (fun b6=>none)else bz (q.q195 y4.1.1 y4.1.2.1 y4.1.2.2.1 y4.1.2.2.2.1 y4.1.2.2.2.2.1 y4.1.2.2.2.2.2.1) fun y5=>some ((y5.1.1,(y5.1.2.1,(y5.1.2.2.1,(y5.1.2.2.2.1,(y5.1.2.2.2.2.1,(y5.1.2.2.2.2.2.1,())))))),())
def asV (q:iQ) (x0:List fU) (x1:bM) (x2:List fZ) (x3 x4 x5:Int):Option Jp:=bif(gU x3 (bC x0))then bif(fB x0 x3)then bif(bJ (dQ x0 (0,([],(0,(0,())))) x3).1 6)then bif(fB x0 x3)then bz (TA (dQ x0 (0,([],(0,(0,())))) x3).2.1) fun y0=>bif y0.1 then bz (MM x0 x1 x2 x3 x4 x5 7) fun y1=>JP y1 q else bz (uA x0 x1 x2 x3 x4 x5) fun y1=>JP y1 q else none else bz (uA x0 x1 x2 x3 x4 x5) fun y0=>JP y0 q else none else bz (uA x0 x1 x2 x3 x4 x5) fun y0=>JP y0 q
noncomputable def agL (q:iQ):Env:=gy prog tt [(164,VA)] [(196,9,atW)] [(196,9,akW q)] [] [(46,Il),(49,am4),(80,PX),(103,Vz),(195,ac1 q)]
def ams (q:iQ) {γ:Type} (a:aaE.den->Option γ) (b:abd.den->Option γ) (c:abR.den->Option γ) (v:aaE.den):Option γ:=Q4 q (fun v0 v1 v2 v3 v4 v5=>a ((),((),()),((v0,v1,v2,v3,v4,()),v5,()))) (fun e0 e1 e2 e3 e4 e5=>b ((),((),()),((e0,e1,e2,e3,e4,()),e5,()))) (c ((),((),()),())) v.2.2.1.1 v.2.2.1.2.1 v.2.2.1.2.2.1 v.2.2.1.2.2.2.1 v.2.2.1.2.2.2.2.1 v.2.2.2.1
theorem aAM (q:iQ):dG (agL q) 196 aq2 (akW q):=kW (ams q) (h2:=by intros;simp only[ams,Q4,bV,bW,bu,bQ,bY])
theorem aE5 (q:iQ):dD (agL q) 196 aDM:=nJ [aq2] (aD (fM (aAM q)) aN)
theorem anY (q:iQ) (H:H48 q):eu (agL q):=eB (aD GZ aN) [196] (aD ⟨f196,aDM,by kernel_rfl,by kernel_rfl,aE5 q⟩ aN) (hx:=(aD kC (aD LW (aD xJ (aD wS (aD H.2.2.2.2.2.1 aN))))))
noncomputable def ayC:Code:=(Tryz.f197.body).getD .skip
noncomputable def ajf:Code:=cA (cA (cA (cB (cB (cB (cA (cB (cA (cA (cA (cB (cB (cB (cB (cB (ayC))))))))))))))))
noncomputable def aq3:Code:=cA (cA (cA (cB (cB (cB (cB (cB (ayC))))))))
def ako:dW:=⟨[0,3,100010],[],[0,3],[],[],[]⟩
def atX:dW:=⟨[0,2,100005],[],[0],[],[],[]⟩
def Qz:SQ:=⟨us [.ptr 0 0,.u,.u,.v cO] 96,[[.ptr 0 0]],[.box 0 101 [.v nK,.v .str,.slc 1,.v cO,.v cO,.v cO],.arr 1 lG]⟩
def UL:SQ:=⟨us [.ptr 0 0,.u,.u,.v cO] 96,[[.ptr 0 0]],[.box 0 101 [.v nK,.v .str,.slc 1,.v cO,.v cO,.v cO],.arr 1 lG]⟩
def UW:SQ:=⟨us [] 100,[[.ptr 0 0]],[]⟩
def LH (q:iQ) {γ:Type} (rec kE:Int->(List fU)->bM->Int->Int->Int->(List fZ)->Option γ) (kR:Option γ) (v0:Int) (v1:List fU) (v2:bM) (v3 v4 v5:Int) (v6:List fZ):Option γ:=bz (nI v1 v2 v6 v3 v4 v5 [124]) fun y0=>bif y0.2.1 then bz (xm y0.1.1 y0.1.2.1 y0.1.2.2.1 (bU .i64 y0.1.2.2.2.1 1) y0.1.2.2.2.2.1 y0.1.2.2.2.2.2.1) fun y1=>rec v0 y1.1.1 y1.1.2.1 y1.1.2.2.2.1 y1.1.2.2.2.2.1 y1.1.2.2.2.2.2.1 y1.1.2.2.1 else kE v0 y0.1.1 y0.1.2.1 y0.1.2.2.2.1 y0.1.2.2.2.2.1 y0.1.2.2.2.2.2.1 y0.1.2.2.1
def uD (q:iQ):Nat->Int->(List fU)->bM->Int->Int->Int->(List fZ)->Option (UL.den⊕UW.den)
 |0,_,_,_,_,_,_,_=>none
 |n+1,v0,v1,v2,v3,v4,v5,v6=>LH q (uD q n) (fun e0 e1 e2 e3 e4 e5 e6=>some (.inl ((e0,()),((),()),((e1,e2,e3,e4,e5,()),e6,())))) (some (.inr ((),((),()),()))) v0 v1 v2 v3 v4 v5 v6
def auH (q:iQ) (n:Nat) (v:Qz.den):=uD q n v.1.1 v.2.2.1.1 v.2.2.1.2.1 v.2.2.1.2.2.1 v.2.2.1.2.2.2.1 v.2.2.1.2.2.2.2.1 v.2.2.2.1
noncomputable def aeU (q:iQ):di:=eX ako Qz UL UW (.exit 2) (auH q bH) 6
def aaF:SQ:=⟨us [.ptr 0 0,.u,.v .bool] 97,[[.ptr 0 0]],[.box 0 101 [.v nK,.v .str,.slc 1,.v cO,.v cO,.v cO],.arr 1 lG]⟩
def abe:SQ:=⟨us [.ptr 0 0] 99,[[.ptr 0 0]],[.box 0 101 [.v nK,.v .str,.slc 1,.v cO,.v cO,.v cO],.arr 1 lG]⟩
def abS:SQ:=⟨us [] 100,[[.ptr 0 0]],[]⟩
def sO {γ:Type} (q:iQ) (y1:(taF×DT)) (y3:Jp) (rec:Bool->(List fU)->bM->Int->Int->Int->(List fZ)->Option γ) (kR:Option γ):Option γ:=bz (uD q bH y1.2.1 y3.1.1 y3.1.2.1 y3.1.2.2.2.1 y3.1.2.2.2.2.1 y3.1.2.2.2.2.2.1 y3.1.2.2.1) fun y4=>dE y4 (fun a5=>bz (mF a5.2.2.1.1 a5.2.2.1.2.1 a5.2.2.2.1 a5.2.2.1.2.2.1 a5.2.2.1.2.2.2.1 a5.2.2.1.2.2.2.2.1 [41]) fun y6=>bz (rV y6.1.1 y6.1.2.1 y6.1.2.2.1 y6.1.2.2.2.1 y6.1.2.2.2.2.1 y6.1.2.2.2.2.2.1) fun y7=>bz (P7 y7.1.1 y7.1.2.1 y7.1.2.2.1 y7.1.2.2.2.1 y7.1.2.2.2.2.1 y7.1.2.2.2.2.2.1) fun y8=>bif y8.2.1 then bz (q.q48 y8.1.1 y8.1.2.1 y8.1.2.2.1 y8.1.2.2.2.1 y8.1.2.2.2.2.1 y8.1.2.2.2.2.2.1) fun y9=>bz (o8 y9.1.1 y9.1.2.1 y9.1.2.2.1 y9.1.2.2.2.1 y9.1.2.2.2.2.1 y9.1.2.2.2.2.2.1 a5.1.1) fun y10=>bz (nI y10.1.1 y10.1.2.1 y10.1.2.2.1 y10.1.2.2.2.1 y10.1.2.2.2.2.1 y10.1.2.2.2.2.2.1 [121]) fun y11=>bif y11.2.1 then bz (rV y11.1.1 y11.1.2.1 y11.1.2.2.1 (bU .i64 y11.1.2.2.2.1 1) y11.1.2.2.2.2.1 y11.1.2.2.2.2.2.1) fun y12=>rec y11.2.1 y12.1.1 y12.1.2.1 y12.1.2.2.2.1 y12.1.2.2.2.2.1 y12.1.2.2.2.2.2.1 y12.1.2.2.1 else rec y11.2.1 y11.1.1 y11.1.2.1 y11.1.2.2.2.1 y11.1.2.2.2.2.1 y11.1.2.2.2.2.2.1 y11.1.2.2.1 else bz (o8 y8.1.1 y8.1.2.1 y8.1.2.2.1 y8.1.2.2.2.1 y8.1.2.2.2.2.1 y8.1.2.2.2.2.2.1 a5.1.1) fun y9=>bz (nI y9.1.1 y9.1.2.1 y9.1.2.2.1 y9.1.2.2.2.1 y9.1.2.2.2.2.1 y9.1.2.2.2.2.2.1 [121]) fun y10=>bif y10.2.1 then bz (rV y10.1.1 y10.1.2.1 y10.1.2.2.1 (bU .i64 y10.1.2.2.2.1 1) y10.1.2.2.2.2.1 y10.1.2.2.2.2.2.1) fun y11=>rec y10.2.1 y11.1.1 y11.1.2.1 y11.1.2.2.2.1 y11.1.2.2.2.2.1 y11.1.2.2.2.2.2.1 y11.1.2.2.1 else rec y10.2.1 y10.1.1 y10.1.2.1 y10.1.2.2.2.1 y10.1.2.2.2.2.1 y10.1.2.2.2.2.2.1 y10.1.2.2.1) (fun b5=>kR)
def LJ (q:iQ) {γ:Type} (rec:Bool->(List fU)->bM->Int->Int->Int->(List fZ)->Option γ) (kE:(List fU)->bM->Int->Int->Int->(List fZ)->Option γ) (kR:Option γ) (v0:Bool) (v1:List fU) (v2:bM) (v3 v4 v5:Int) (v6:List fZ):Option γ:=bif v0 then bz (nI v1 v2 v6 v3 v4 v5 [40]) fun y0=>bif y0.2.1 then bz (DK y0.1.1 y0.1.2.1 y0.1.2.2.1 y0.1.2.2.2.1 y0.1.2.2.2.2.1 y0.1.2.2.2.2.2.1 15) fun y1=>bz (nI y1.1.1 y1.1.2.1 y1.1.2.2.1 y1.1.2.2.2.1 y1.1.2.2.2.2.1 y1.1.2.2.2.2.2.1 [40]) fun y2=>bif y2.2.1 then bz (xm y2.1.1 y2.1.2.1 y2.1.2.2.1 (bU .i64 y2.1.2.2.2.1 1) y2.1.2.2.2.2.1 y2.1.2.2.2.2.2.1) fun y3=>sO q y1 y3 rec kR else bz (xm y2.1.1 y2.1.2.1 y2.1.2.2.1 y2.1.2.2.2.1 y2.1.2.2.2.2.1 y2.1.2.2.2.2.2.1) fun y3=>sO q y1 y3 rec kR else bif(gU y0.1.2.2.2.1 (bC y0.1.1))then bif(fB y0.1.1 y0.1.2.2.2.1)then bif(bJ (dQ y0.1.1 (0,([],(0,(0,())))) y0.1.2.2.2.1).1 6)then bz (nI y0.1.1 y0.1.2.1 y0.1.2.2.1 y0.1.2.2.2.1 y0.1.2.2.2.2.1 y0.1.2.2.2.2.2.1 [122]) fun y1=>bif(!y1.2.1)then bz (DK y1.1.1 y1.1.2.1 y1.1.2.2.1 y1.1.2.2.2.1 y1.1.2.2.2.2.1 y1.1.2.2.2.2.2.1 15) fun y2=>bz (nI y2.1.1 y2.1.2.1 y2.1.2.2.1 y2.1.2.2.2.1 y2.1.2.2.2.2.1 y2.1.2.2.2.2.2.1 [40]) fun y3=>bif y3.2.1 then bz (xm y3.1.1 y3.1.2.1 y3.1.2.2.1 (bU .i64 y3.1.2.2.2.1 1) y3.1.2.2.2.2.1 y3.1.2.2.2.2.2.1) fun y4=>sO q y2 y4 rec kR else bz (xm y3.1.1 y3.1.2.1 y3.1.2.2.1 y3.1.2.2.2.1 y3.1.2.2.2.2.1 y3.1.2.2.2.2.2.1) fun y4=>sO q y2 y4 rec kR else kE y1.1.1 y1.1.2.1 y1.1.2.2.2.1 y1.1.2.2.2.2.1 y1.1.2.2.2.2.2.1 y1.1.2.2.1 else kE y0.1.1 y0.1.2.1 y0.1.2.2.2.1 y0.1.2.2.2.2.1 y0.1.2.2.2.2.2.1 y0.1.2.2.1 else none else kE y0.1.1 y0.1.2.1 y0.1.2.2.2.1 y0.1.2.2.2.2.1 y0.1.2.2.2.2.2.1 y0.1.2.2.1 else kE v1 v2 v3 v4 v5 v6
def yH (q:iQ):Nat->Bool->(List fU)->bM->Int->Int->Int->(List fZ)->Option (abe.den⊕abS.den)
 |0,_,_,_,_,_,_,_=>none
 |n+1,v0,v1,v2,v3,v4,v5,v6=>LJ q (yH q n) (fun e0 e1 e2 e3 e4 e5=>some (.inl ((),((),()),((e0,e1,e2,e3,e4,()),e5,())))) (some (.inr ((),((),()),()))) v0 v1 v2 v3 v4 v5 v6
def az9 (q:iQ) (n:Nat) (v:aaF.den):=yH q n v.1.1 v.2.2.1.1 v.2.2.1.2.1 v.2.2.1.2.2.1 v.2.2.1.2.2.2.1 v.2.2.1.2.2.2.2.1 v.2.2.2.1
noncomputable def akX (q:iQ):di:=eX atX aaF abe abS (.exit 0) (az9 q bH) 12
def asW (q:iQ) (x0:List fU) (x1:bM) (x2:List fZ) (x3 x4 x5:Int):Option Jp:=bz (xm x0 x1 x2 x3 x4 x5) fun y0=>bz (rV y0.1.1 y0.1.2.1 y0.1.2.2.1 y0.1.2.2.2.1 y0.1.2.2.2.2.1 y0.1.2.2.2.2.2.1) fun y1=>bz (mF y1.1.1 y1.1.2.1 y1.1.2.2.1 y1.1.2.2.2.1 y1.1.2.2.2.2.1 y1.1.2.2.2.2.2.1 [107]) fun y2=>bz (rV y2.1.1 y2.1.2.1 y2.1.2.2.1 y2.1.2.2.2.1 y2.1.2.2.2.2.1 y2.1.2.2.2.2.2.1) fun y3=>bz (yH q bH true y3.1.1 y3.1.2.1 y3.1.2.2.2.1 y3.1.2.2.2.2.1 y3.1.2.2.2.2.2.1 y3.1.2.2.1) fun y4=>dE y4 (fun a5=>bz (mF a5.2.2.1.1 a5.2.2.1.2.1 a5.2.2.2.1 a5.2.2.1.2.2.1 a5.2.2.1.2.2.2.1 a5.2.2.1.2.2.2.2.1 [122]) fun y6=>some ((y6.1.1,(y6.1.2.1,(y6.1.2.2.1,(y6.1.2.2.2.1,(y6.1.2.2.2.2.1,(y6.1.2.2.2.2.2.1,())))))),())) (fun b5=>none)
noncomputable def Y7 (q:iQ):Env:=gy prog tt [] [(197,10,ako),(197,5,atX)] [(197,10,aeU q),(197,5,akX q)] [] [(45,PV),(46,Il),(47,YB),(48,aiX q),(50,PW),(80,PX),(165,VB),(198,axg)]
def afA (q:iQ) {γ:Type} (a:Qz.den->Option γ) (b:UL.den->Option γ) (c:UW.den->Option γ) (v:Qz.den):Option γ:=LH q (fun v0 v1 v2 v3 v4 v5 v6=>a ((v0,()),((),()),((v1,v2,v3,v4,v5,()),v6,()))) (fun e0 e1 e2 e3 e4 e5 e6=>b ((e0,()),((),()),((e1,e2,e3,e4,e5,()),e6,()))) (c ((),((),()),())) v.1.1 v.2.2.1.1 v.2.2.1.2.1 v.2.2.1.2.2.1 v.2.2.1.2.2.2.1 v.2.2.1.2.2.2.2.1 v.2.2.2.1
theorem avv (q:iQ):dG (Y7 q) 197 ajf (aeU q):=kW (afA q) (h2:=by intros;simp only[afA,LH,bV,bW,bu,bQ,bY])
def amu (q:iQ) {γ:Type} (a:aaF.den->Option γ) (b:abe.den->Option γ) (c:abS.den->Option γ) (v:aaF.den):Option γ:=LJ q (fun v0 v1 v2 v3 v4 v5 v6=>a ((v0,()),((),()),((v1,v2,v3,v4,v5,()),v6,()))) (fun e0 e1 e2 e3 e4 e5=>b ((),((),()),((e0,e1,e2,e3,e4,()),e5,()))) (c ((),((),()),())) v.1.1 v.2.2.1.1 v.2.2.1.2.1 v.2.2.1.2.2.1 v.2.2.1.2.2.2.1 v.2.2.1.2.2.2.2.1 v.2.2.2.1
theorem aAN (q:iQ):dG (Y7 q) 197 aq3 (akX q):=kW (amu q) (h2:=by intros;simp only[amu,LJ,bV,bW,bu,bQ,bY,sO])
theorem aE6 (q:iQ):dD (Y7 q) 197 ayC:=nJ [ajf,aq3] (aD (fM (avv q)) (aD (fM (aAN q)) aN))
theorem anZ (q:iQ) (H:H48 q):eu (Y7 q):=eB aN [197] (aD ⟨Tryz.f197,ayC,by kernel_rfl,by kernel_rfl,aE6 q⟩ aN) (hx:=(aD pO (aD kC (aD Fp (aD H.1 (aD pR (aD xJ (aD G5 (aD Yx aN)))))))))
def gK:Nat->iQ
 |0=>⟨(fun _ _ _ _ _ _=>none),(fun _ _ _ _ _ _=>none),(fun _ _ _ _ _ _=>none),(fun _ _ _ _ _ _=>none),(fun _ _ _ _ _ _=>none),(fun _ _ _ _ _ _=>none),(fun _ _ _ _ _ _=>none),(fun _ _ _ _ _ _=>none),(fun _ _ _ _ _ _=>none)⟩
 |r+1=>⟨aEg (gK r),aEh (gK r),asN (gK r),asP (gK r),asT (gK r),asU (gK r),Ak (gK r),asV (gK r),asW (gK r)⟩
def aEk (x0:List fU) (x1:bM) (x2:List fZ) (x3 x4 x5:Int):Option Jp:=(gK bH).q48 x0 x1 x2 x3 x4 x5
def aC1:fP:=⟨101,VT,[],[],fun x y=>aEk x.1 x.2.1 x.2.2.1 x.2.2.2.1 x.2.2.2.2.1 x.2.2.2.2.2.1⟩
theorem avV: ∀r,H48 (gK r)
 |0=>⟨nG fun _ _=>rfl,nG fun _ _=>rfl,nG fun _ _=>rfl,nG fun _ _=>rfl,nG fun _ _=>rfl,nG fun _ _=>rfl,nG fun _ _=>rfl,nG fun _ _=>rfl,nG fun _ _=>rfl⟩
 |r+1=>by
  have ih:=avV r;exact⟨sB (arR (gK r) ih),
   sB (asf (gK r) ih),
   sB (anu (gK r) ih),
   sB (anB (gK r) ih),
   sB (anW (gK r) ih),
   sB (anX (gK r) ih),
   sB (anP (gK r) ih),
   sB (anY (gK r) ih),
   sB (anZ (gK r) ih)⟩
theorem axN:dM prog 48 aC1:=(avV bH).1
noncomputable def b21:Code:=(f21.body).getD .skip
noncomputable def aBu:Code:=cA (cA (cB (cA (cB (cB (b21))))))
noncomputable def aBv:Code:=cA (cA (cA (cB (cB (cB (cB (cB (cB (b21)))))))))
def aB7:dW:=⟨[0,3,4,100003],[],[0,3],[],[2],[(2,lG)]⟩
def aB8:dW:=⟨[0,5,6,7,100009],[],[5,6],[],[2],[(2,lG)]⟩
def aln:SP:=⟨us [.v nK,.u,.u,.v .str,.v cO] 56,[]⟩
def ahL:SP:=⟨us [.v nK,.u,.u,.v .str] 57,[]⟩
def aid:SP:=⟨us [.u,.u,.v (.list lG)] 58,[]⟩
def acz {γ:Type} (rec:(List fU)->bM->Int->Option γ) (kE:(List fU)->bM->Option γ) (kR:(List fZ)->Option γ) (v0:List fU) (v1:bM) (v2:Int):Option γ:=bif(gU v2 (bC v0))then bif(fB v0 v2)then bz (TD (dQ v0 (0,([],(0,(0,())))) v2)) fun y0=>bif(eP v1 y0.1)then rec v0 (bG v1 y0.1) (bU .i64 v2 1)else none else none else kE v0 v1
def MX:Nat->(List fU)->bM->Int->Option (ahL.den⊕aid.den)
 |0,_,_,_=>none
 |n+1,v0,v1,v2=>acz (MX n) (fun e0 e1=>some (.inl ((e0,e1,()),()))) (fun r0=>some (.inr ((r0,()),()))) v0 v1 v2
def aFi (n:Nat) (v:aln.den):=MX n v.1.1 v.1.2.1 v.1.2.2.1
noncomputable def auN:di:=fD aB7 aln ahL aid (.exit 0) (aFi bH) 6
def alo:SP:=⟨us [.v nK,.u,.u,.u,.u,.ptr 1000024 0,.v cO,.v cO] 53,[.arr 1200482 lG,.box 1000024 101 [.v nK,.v .str,.slc 1200482,.v cO,.v cO,.v cO]]⟩
def ahM:SP:=⟨us [.u,.u,.u,.u,.u,.ptr 1000024 0,.v cO] 54,[.arr 1200482 lG,.box 1000024 101 [.v nK,.v .str,.slc 1200482,.v cO,.v cO,.v cO]]⟩
def aie:SP:=⟨us [.u,.u,.v (.list lG)] 58,[]⟩
def acA {γ:Type} (rec:(List fU)->Int->Int->(List fZ)->(List fU)->bM->Int->Int->Int->Option γ) (kE:Int->(List fZ)->(List fU)->bM->Int->Int->Int->Option γ) (kR:(List fZ)->Option γ) (v0:List fU) (v1 v2:Int) (v3:List fZ) (v4:List fU) (v5:bM) (v6 v7 v8:Int):Option γ:=bif(gU v6 (bC v0))then bz (nI v4 v5 v3 v6 v7 v8 [110]) fun y0=>bif y0.2.1 then rec v0 v1 v2 y0.1.2.2.1 y0.1.1 y0.1.2.1 (bU .i64 y0.1.2.2.2.1 1) y0.1.2.2.2.2.1 y0.1.2.2.2.2.2.1 else bif(!(bJ v2 2))then bz (P7 y0.1.1 y0.1.2.1 y0.1.2.2.1 y0.1.2.2.2.1 y0.1.2.2.2.2.1 y0.1.2.2.2.2.2.1) fun y1=>bif y1.2.1 then bz (aEk y1.1.1 y1.1.2.1 y1.1.2.2.1 y1.1.2.2.2.1 y1.1.2.2.2.2.1 y1.1.2.2.2.2.2.1) fun y2=>rec v0 v1 2 y2.1.2.2.1 y2.1.1 y2.1.2.1 y2.1.2.2.2.1 y2.1.2.2.2.2.1 y2.1.2.2.2.2.2.1 else bz (MM y1.1.1 y1.1.2.1 y1.1.2.2.1 y1.1.2.2.2.1 y1.1.2.2.2.2.1 y1.1.2.2.2.2.2.1 17) fun y2=>rec v0 v1 17 y2.1.2.2.1 y2.1.1 y2.1.2.1 y2.1.2.2.2.1 y2.1.2.2.2.2.1 y2.1.2.2.2.2.2.1 else bz (MM y0.1.1 y0.1.2.1 y0.1.2.2.1 y0.1.2.2.2.1 y0.1.2.2.2.2.1 y0.1.2.2.2.2.2.1 17) fun y1=>rec v0 v1 17 y1.1.2.2.1 y1.1.1 y1.1.2.1 y1.1.2.2.2.1 y1.1.2.2.2.2.1 y1.1.2.2.2.2.2.1 else kE v1 v3 v4 v5 v6 v7 v8
def IX:Nat->(List fU)->Int->Int->(List fZ)->(List fU)->bM->Int->Int->Int->Option (ahM.den⊕aie.den)
 |0,_,_,_,_,_,_,_,_,_=>none
 |n+1,v0,v1,v2,v3,v4,v5,v6,v7,v8=>acA (IX n) (fun e0 e1 e2 e3 e4 e5 e6=>some (.inl ((e0,()),(e1,(e2,e3,e4,e5,e6,()),())))) (fun r0=>some (.inr ((r0,()),()))) v0 v1 v2 v3 v4 v5 v6 v7 v8
def aFj (n:Nat) (v:alo.den):=IX n v.1.1 v.1.2.1 v.1.2.2.1 v.2.1 v.2.2.1.1 v.2.2.1.2.1 v.2.2.1.2.2.1 v.2.2.1.2.2.2.1 v.2.2.1.2.2.2.2.1
noncomputable def auO:di:=fD aB8 alo ahM aie (.exit 2) (aFj bH) 12
def agZ (x0:List fU):Option ((List fZ)×Unit):=bz (MX bH x0 [] 0) fun y0=>dE y0 (fun a1=>bz (DK a1.1.1 a1.1.2.1 [] 0 (-1) 0 1) fun y2=>bz (IX bH a1.1.1 y2.2.1 0 y2.1.2.2.1 y2.1.1 y2.1.2.1 y2.1.2.2.2.1 y2.1.2.2.2.2.1 y2.1.2.2.2.2.2.1) fun y3=>dE y3 (fun a4=>bz (o8 a4.2.2.1.1 a4.2.2.1.2.1 a4.2.1 a4.2.2.1.2.2.1 a4.2.2.1.2.2.2.1 a4.2.2.1.2.2.2.2.1 a4.1.1) fun y5=>some (y5.1.2.2.1,())) (fun b4=>some (b4.1.1,()))) (fun b1=>some (b1.1.1,()))
def aCP:Sum:=⟨[nK],[(.list lG,false)],fun x=>agZ x.1⟩
noncomputable def ajq:Env:=iM prog tt 21 [(44,aC0)] [(3,aB7),(9,aB8)] [(3,auN),(9,auO)] [(45,PV),(46,Il),(47,YB),(48,aC1),(49,am4),(50,PW)]
def av3 {γ:Type} (a:aln.den->Option γ) (b:ahL.den->Option γ) (c:aid.den->Option γ) (v:aln.den):Option γ:=acz (fun v0 v1 v2=>a ((v0,v1,v2,()),())) (fun e0 e1=>b ((e0,e1,()),())) (fun r0=>c ((r0,()),())) v.1.1 v.1.2.1 v.1.2.2.1
theorem aFY:dG ajq 21 aBu auN:=uQ (av3) (h2:=by intros;simp only[av3,acz,bV,bW,bu,bQ,bY])
def av4 {γ:Type} (a:alo.den->Option γ) (b:ahM.den->Option γ) (c:aie.den->Option γ) (v:alo.den):Option γ:=acA (fun v0 v1 v2 v3 v4 v5 v6 v7 v8=>a ((v0,v1,v2,()),(v3,(v4,v5,v6,v7,v8,()),()))) (fun e0 e1 e2 e3 e4 e5 e6=>b ((e0,()),(e1,(e2,e3,e4,e5,e6,()),()))) (fun r0=>c ((r0,()),())) v.1.1 v.1.2.1 v.1.2.2.1 v.2.1 v.2.2.1.1 v.2.2.1.2.1 v.2.2.1.2.2.1 v.2.2.1.2.2.2.1 v.2.2.1.2.2.2.2.1
theorem aFZ:dG ajq 21 aBv auO:=uQ (av4) (h2:=by intros;simp only[av4,acA,bV,bW,bu,bQ,bY])
theorem aIr:dD ajq 21 b21:=nJ [aBu,aBv] (aD (fM (aFY)) (aD (fM (aFZ)) aN))
theorem arE:eu ajq:=eA f21 (aD axM aN) (aIr) (hx:=(aD pO (aD kC (aD Fp (aD axN (aD LW (aD pR aN)))))))
theorem axq:dH prog 21 aCP:=sA arE
end
section
open Tryz
open Go.RowKit
noncomputable def aHL:Code:=(f127.body).getD .skip
noncomputable def aqO:Code:=cA (cA (cB (cA (cB (aHL)))))
def atK:dW:=⟨[0,1,4,6,100002],[],[4],[],[4,5],[]⟩
def aap:SP:=⟨us [.v WR,.v cO,.u,.u,.ptr 1000004 0,.u,.v cO] 18,[.box 1000004 161 [.v cO,.v cO,.v cO,.v cO,.v .bool]]⟩
def aaY:SP:=⟨us [.u,.u,.u,.u,.ptr 1000004 0] 20,[.box 1000004 161 [.v cO,.v cO,.v cO,.v cO,.v .bool]]⟩
def abC:SP:=⟨us [.u,.u,.u,.u,.ptr 1000004 0,.v cO] 19,[.box 1000004 161 [.v cO,.v cO,.v cO,.v cO,.v .bool]]⟩
def QQ {γ:Type} (rec:(List iY)->Int->Int->Int->Int->Int->Int->Bool->Option γ) (kE:Int->Int->Int->Int->Bool->Option γ) (kR:Int->Int->Int->Int->Int->Bool->Option γ) (v0:List iY) (v1 v2 v3 v4 v5 v6:Int) (v7:Bool):Option γ:=bif(gU v2 (bC v0))then bif(fB v0 v2)then bif(bJ (dQ v0 (0,(0,(0,(0,(false,()))))) v2).2.1 v1)then bif(fB v0 v2)then kR 1 (dQ v0 (0,(0,(0,(0,(false,()))))) v2).1 (dQ v0 (0,(0,(0,(0,(false,()))))) v2).2.1 (dQ v0 (0,(0,(0,(0,(false,()))))) v2).2.2.1 (dQ v0 (0,(0,(0,(0,(false,()))))) v2).2.2.2.1 (dQ v0 (0,(0,(0,(0,(false,()))))) v2).2.2.2.2.1 else none else rec v0 v1 (bU .i64 v2 1) v3 v4 v5 v6 v7 else none else kE v3 v4 v5 v6 v7
def Gj:Nat->(List iY)->Int->Int->Int->Int->Int->Int->Bool->Option (aaY.den⊕abC.den)
 |0,_,_,_,_,_,_,_,_=>none
 |n+1,v0,v1,v2,v3,v4,v5,v6,v7=>QQ (Gj n) (fun e0 e1 e2 e3 e4=>some (.inl ((),((e0,e1,e2,e3,e4,()),())))) (fun r0 r1 r2 r3 r4 r5=>some (.inr ((r0,()),((r1,r2,r3,r4,r5,()),())))) v0 v1 v2 v3 v4 v5 v6 v7
def azT (n:Nat) (v:aap.den):=Gj n v.1.1 v.1.2.1 v.1.2.2.1 v.2.1.1 v.2.1.2.1 v.2.1.2.2.1 v.2.1.2.2.2.1 v.2.1.2.2.2.2.1
noncomputable def akI:di:=fD atK aap aaY abC (.exit 0) (azT bH) 6
def adP (x0:List iY) (x1:Int):Option (iY×Int×Unit):=bz (Gj bH x0 x1 0 0 0 0 0 false) fun y0=>dE y0 (fun a1=>some ((0,(0,(0,(0,(false,()))))),(0,()))) (fun b1=>some ((b1.2.1.1,(b1.2.1.2.1,(b1.2.1.2.2.1,(b1.2.1.2.2.2.1,(b1.2.1.2.2.2.2.1,()))))),(b1.1.1,())))
def aiR:Sum:=⟨[WR,cO],[(.pair cO Qi,false),(.int .i64,false)],fun x=>adP x.1 x.2.1⟩
noncomputable def agw:Env:=iM prog tt 127 [] [(2,atK)] [(2,akI)]
def amc {γ:Type} (a:aap.den->Option γ) (b:aaY.den->Option γ) (c:abC.den->Option γ) (v:aap.den):Option γ:=QQ (fun v0 v1 v2 v3 v4 v5 v6 v7=>a ((v0,v1,v2,()),((v3,v4,v5,v6,v7,()),()))) (fun e0 e1 e2 e3 e4=>b ((),((e0,e1,e2,e3,e4,()),()))) (fun r0 r1 r2 r3 r4 r5=>c ((r0,()),((r1,r2,r3,r4,r5,()),()))) v.1.1 v.1.2.1 v.1.2.2.1 v.2.1.1 v.2.1.2.1 v.2.1.2.2.1 v.2.1.2.2.2.1 v.2.1.2.2.2.2.1
theorem aAx:dG agw 127 aqO akI:=uQ (amc) (h2:=by intros;simp only[amc,QQ,bV,bW,bu,bQ,bY])
theorem aEL:dD agw 127 aHL:=nJ [aqO] (aD (fM (aAx)) aN)
theorem anz:eu agw:=eA f127 aN (aEL)
theorem Yn:dH prog 127 aiR:=sA anz
def fJ (x0:List G9):=dQ x0 (false,(false,([],()))) (dR .i64 (bC x0) 1)
def iV (x0:List G9) (x1:bM):=fG (bG (fJ x0).2.2.1 x1) (bG (fJ x0).2.2.1 x1)
def qO (x0:List G9):=nH WQ (sub x0 0 (dR .i64 (bC x0) 1)) (sub x0 0 (dR .i64 (bC x0) 1))
def jI (x0:List G9):=nH WQ x0 x0
def vG (x0:List G9) (x1:bM):=bG (bG [] (sub x0 0 (dR .i64 (bC x0) 1))) [(false,(false,((bG (fJ x0).2.2.1 x1),())))]
def lJ (x0:List G9):=bJ (dR .i64 (bC x0) 1) (dR .i64 (bC x0) 1)
def jJ (x0:List G9):=fG (fJ x0).2.2.1 (fJ x0).2.2.1
def tq (x0:List G9):=eU (bC x0) 0 (dR .i64 (bC x0) 1)
def Zh (x0:List G9) (x1:bM):Option ((List G9)×Unit):=bif(dO (bG [] x0) 24)then bif(dO (bG (bG [] x0) [(false,(false,(x1,())))]) 24)then some ((bG (bG [] x0) [(false,(false,(x1,())))]),())else none else none
def Xo (x0:List G9) (x1:bM) (x2:Bool):Option ((List G9)×Unit):=bif(gU 0 (bC x0))then bif(!x2)then bif(fB x0 (dR .i64 (bC x0) 1))then bif(tq x0)then bif(eP (fJ x0).2.2.1 x1)then bif(jI x0)then bif(bJ (bC x0) (bC x0))then bif(lJ x0)then bif(tq x0)then bif(qO x0)then bif(jJ x0)then bif(fG x1 x1)then bif(eP (fJ x0).2.2.1 x1)then bif(iV x0 x1)then bif((jl false false)&&((jl false false)&&((iV x0 x1)&&true)))then bif(dO (bG [] (sub x0 0 (dR .i64 (bC x0) 1))) 24)then bif(jI x0)then bif(bJ (bC x0) (bC x0))then bif(lJ x0)then bif(jJ x0)then bif(fG x1 x1)then bif(eP (fJ x0).2.2.1 x1)then bif(iV x0 x1)then bif((jl false false)&&((jl false false)&&((iV x0 x1)&&true)))then bif(jI x0)then bif(bJ (bC x0) (bC x0))then bif(lJ x0)then bif(tq x0)then bif(qO x0)then bif(jJ x0)then bif(fG x1 x1)then bif(eP (fJ x0).2.2.1 x1)then bif(iV x0 x1)then bif(dO (vG x0 x1) 24)then bif(jI x0)then bif(bJ (bC x0) (bC x0))then bif(lJ x0)then bif(tq x0)then bif(qO x0)then bif(jJ x0)then bif(fG x1 x1)then bif(eP (fJ x0).2.2.1 x1)then bif(iV x0 x1)then bif((jl false false)&&((jl false false)&&((iV x0 x1)&&true)))then bz (bif(jI x0)then(bif(bJ (bC x0) (bC x0))then(bif(lJ x0)then(bif(tq x0)then(bif(qO x0)then(bif(jJ x0)then(bif(fG x1 x1)then(bif(eP (fJ x0).2.2.1 x1)then(bif(iV x0 x1)then(bif(dO (bG [] (sub x0 0 (dR .i64 (bC x0) 1))) 24)then(bif(jI x0)then(bif(bJ (bC x0) (bC x0))then(bif(lJ x0)then(bif(jJ x0)then(bif(fG x1 x1)then(bif(eP (fJ x0).2.2.1 x1)then(bif(iV x0 x1)then(bif((jl false false)&&((jl false false)&&((iV x0 x1)&&true)))then(bif(dO (vG x0 x1) 24)then(bif(jI x0)then(bif(bJ (bC x0) (bC x0))then(bif(lJ x0)then(bif(tq x0)then(bif(qO x0)then(bif(jJ x0)then(bif(fG x1 x1)then(bif(eP (fJ x0).2.2.1 x1)then(bif(iV x0 x1)then(bif((jl false false)&&((jl false false)&&((iV x0 x1)&&true)))then(bif((((jI x0)&&((fG x1 x1)&&((jl x2 x2)&&((bJ (bC x0) (bC x0))&&((jI x0)&&((bJ (bC x0) (bC x0))&&((bJ (bC x0) (bC x0))&&((jl (gU 0 (bC x0)) (gU 0 (bC x0)))&&((jl true true)&&((jl x2 x2)&&((jl (!x2) (!x2))&&((jl (!x2) (!x2))&&((jI x0)&&((bJ (bC x0) (bC x0))&&((lJ x0)&&(((jl (fJ x0).1 (fJ x0).1)&&((jl (fJ x0).2.1 (fJ x0).2.1)&&((jJ x0)&&true)))&&(((jl (fJ x0).1 (fJ x0).1)&&((jl (fJ x0).2.1 (fJ x0).2.1)&&((jJ x0)&&true)))&&((jI x0)&&((bJ (bC x0) (bC x0))&&((lJ x0)&&((qO x0)&&((jJ x0)&&((fG x1 x1)&&((iV x0 x1)&&(((jl false false)&&((jl false false)&&((iV x0 x1)&&true)))&&true)))))))))))))))))))))))))&&(((nH WQ [(false,(false,((bG (fJ x0).2.2.1 x1),())))] [(false,(false,((bG (fJ x0).2.2.1 x1),())))])&&((nH WQ (vG x0 x1) (vG x0 x1))&&(((jl (fJ x0).1 (fJ x0).1)&&((jl (fJ x0).2.1 (fJ x0).2.1)&&((jJ x0)&&true)))&&true)))&&true))&&true)then(some ())else(none))else(none))else(none))else(none))else(none))else(none))else(none))else(none))else(none))else(none))else(none))else(none))else(none))else(none))else(none))else(none))else(none))else(none))else(none))else(none))else(none))else(none))else(none))else(none))else(none))else(none))else(none))else(none))else(none))else(none)) fun y0=>bz (bif(jI x0)then(bif(bJ (bC x0) (bC x0))then(bif(lJ x0)then(bif(tq x0)then(bif(qO x0)then(bif(jJ x0)then(bif(fG x1 x1)then(bif(eP (fJ x0).2.2.1 x1)then(bif(iV x0 x1)then(bif(jI x0)then(bif(bJ (bC x0) (bC x0))then(bif(lJ x0)then(bif(tq x0)then(bif(qO x0)then(bif(jJ x0)then(bif(fG x1 x1)then(bif(eP (fJ x0).2.2.1 x1)then(bif(iV x0 x1)then(bif((jl false false)&&((jl false false)&&((iV x0 x1)&&true)))then(bif(dO (bG [] (sub x0 0 (dR .i64 (bC x0) 1))) 24)then(bif(jI x0)then(bif(bJ (bC x0) (bC x0))then(bif(lJ x0)then(bif(jJ x0)then(bif(fG x1 x1)then(bif(eP (fJ x0).2.2.1 x1)then(bif(iV x0 x1)then(bif((jl false false)&&((jl false false)&&((iV x0 x1)&&true)))then(bif(dO (vG x0 x1) 24)then(bif(jI x0)then(bif(bJ (bC x0) (bC x0))then(bif(lJ x0)then(bif(tq x0)then(bif(qO x0)then(bif(jJ x0)then(bif(fG x1 x1)then(bif(eP (fJ x0).2.2.1 x1)then(bif(iV x0 x1)then(bif((jl false false)&&((jl false false)&&((iV x0 x1)&&true)))then(bif((((jI x0)&&((fG x1 x1)&&((jl x2 x2)&&((bJ (bC x0) (bC x0))&&((jI x0)&&((bJ (bC x0) (bC x0))&&((bJ (bC x0) (bC x0))&&((jl (gU 0 (bC x0)) (gU 0 (bC x0)))&&((jl true true)&&((jl x2 x2)&&((jl (!x2) (!x2))&&((jl (!x2) (!x2))&&((jI x0)&&((bJ (bC x0) (bC x0))&&((lJ x0)&&(((jl (fJ x0).1 (fJ x0).1)&&((jl (fJ x0).2.1 (fJ x0).2.1)&&((jJ x0)&&true)))&&(((jl (fJ x0).1 (fJ x0).1)&&((jl (fJ x0).2.1 (fJ x0).2.1)&&((jJ x0)&&true)))&&((jI x0)&&((bJ (bC x0) (bC x0))&&((lJ x0)&&((qO x0)&&((jJ x0)&&((fG x1 x1)&&((iV x0 x1)&&(((jl false false)&&((jl false false)&&((iV x0 x1)&&true)))&&true)))))))))))))))))))))))))&&(((nH WQ [(false,(false,((bG (fJ x0).2.2.1 x1),())))] [(false,(false,((bG (fJ x0).2.2.1 x1),())))])&&((nH WQ (vG x0 x1) (vG x0 x1))&&(((jl (fJ x0).1 (fJ x0).1)&&((jl (fJ x0).2.1 (fJ x0).2.1)&&((jJ x0)&&true)))&&true)))&&true))&&true)then(some ())else(none))else(none))else(none))else(none))else(none))else(none))else(none))else(none))else(none))else(none))else(none))else(none))else(none))else(none))else(none))else(none))else(none))else(none))else(none))else(none))else(none))else(none))else(none))else(none))else(none))else(none))else(none))else(none))else(none))else(none))else(none))else(none))else(none))else(none))else(none))else(none))else(none))else(none))else(none))else(none)) fun y1=>some ((vG x0 x1),())else none else none else none else none else none else none else none else none else none else none else none else none else none else none else none else none else none else none else none else none else none else none else none else none else none else none else none else none else none else none else none else none else none else none else none else none else none else none else none else none else none else none else Zh x0 x1 else Zh x0 x1
def aw2:Sum:=⟨[.list WQ,.str,.bool],[(.list WQ,true)],fun x=>Xo x.1 x.2.1 x.2.2.1⟩
theorem apo:dH prog 128 aw2:=qA f128 [] aN
noncomputable def aHM:Code:=(Tryz.f129.body).getD .skip
noncomputable def aqP:Code:=cA (cA (cA (cB (cB (cB (cB (aHM)))))))
def atL:dW:=⟨[0,1,3,9,10,11,100004],[(9,WQ)],[9,10],[],[8],[(8,WQ)]⟩
def aaq:SP:=⟨us [.v .str,.v WR,.u,.v cO,.u,.u,.u,.u,.u,.slc 1800009,.v .str,.v cO] 112,[.arr 1800009 WQ]⟩
def aaZ:SP:=⟨us [.u,.u,.u,.u,.u,.u,.u,.u,.u,.slc 1800009,.v .str] 113,[.arr 1800009 WQ]⟩
def abD:SP:=⟨us [.u,.u,.u,.u,.u,.u,.u,.u,.v (.list WQ)] 115,[]⟩
def wM {γ:Type} (v0:bM) (v4:Int) (v3:bM) (rec:bM->(List iY)->Int->bM->Int->(List G9)->Option γ) (v1:List iY) (v2:Int) (y0:(iY×Int×Unit)) (v5:List G9):Option γ:=bif(eU (bC v0) (bU .i64 v4 1) (bU .i64 v4 2))then bif(eP v3 (sub v0 (bU .i64 v4 1) (bU .i64 v4 2)))then rec v0 v1 v2 (bG v3 (sub v0 (bU .i64 v4 1) (bU .i64 v4 2))) y0.1.2.2.1 v5 else none else none
def GN {γ:Type} (y0:(iY×Int×Unit)) (v4:Int) (v0 v3:bM) (rec:bM->(List iY)->Int->bM->Int->(List G9)->Option γ) (v1:List iY) (v2:Int) (v5:List G9):Option γ:=bif(bJ y0.1.1 13)then bif(bJ y0.1.2.2.1 (bU .i64 v4 2))then bif(fB v0 (bU .i64 v4 1))then bif(bJ (bT v0 (bU .i64 v4 1)) 36)then wM v0 v4 v3 rec v1 v2 y0 v5 else bif(bJ (bT v0 (bU .i64 v4 1)) 96)then wM v0 v4 v3 rec v1 v2 y0 v5 else bif(bJ (bT v0 (bU .i64 v4 1)) 34)then wM v0 v4 v3 rec v1 v2 y0 v5 else bif(bJ (bT v0 (bU .i64 v4 1)) 92)then wM v0 v4 v3 rec v1 v2 y0 v5 else bif(!(bJ (bT v0 (bU .i64 v4 1)) 10))then bif(eU (bC v0) v4 (bU .i64 v4 2))then bif(eP v3 (sub v0 v4 (bU .i64 v4 2)))then rec v0 v1 v2 (bG v3 (sub v0 v4 (bU .i64 v4 2))) y0.1.2.2.1 v5 else none else none else rec v0 v1 v2 v3 y0.1.2.2.1 v5 else none else rec v0 v1 v2 v3 y0.1.2.2.1 v5 else bif(!(fG v3 []))then bif(dO (bG v5 [(false,(true,(v3,())))]) 24)then bif(eU (bC v0) v4 y0.1.2.2.1)then bif(dO (bG (bG v5 [(false,(true,(v3,())))]) [(true,(true,((sub v0 v4 y0.1.2.2.1),())))]) 24)then rec v0 v1 v2 [] y0.1.2.2.1 (bG (bG v5 [(false,(true,(v3,())))]) [(true,(true,((sub v0 v4 y0.1.2.2.1),())))])else none else none else none else bif(eU (bC v0) v4 y0.1.2.2.1)then bif(dO (bG v5 [(true,(true,((sub v0 v4 y0.1.2.2.1),())))]) 24)then rec v0 v1 v2 [] y0.1.2.2.1 (bG v5 [(true,(true,((sub v0 v4 y0.1.2.2.1),())))])else none else none
def QR {γ:Type} (rec:bM->(List iY)->Int->bM->Int->(List G9)->Option γ) (kE:bM->(List G9)->Option γ) (kR:(List G9)->Option γ) (v0:bM) (v1:List iY) (v2:Int) (v3:bM) (v4:Int) (v5:List G9):Option γ:=bif(gU v4 v2)then bz (adP v1 v4) fun y0=>bif(bJ y0.2.1 0)then bif(eU (bC v0) v4 (bU .i64 v4 1))then bif(eP v3 (sub v0 v4 (bU .i64 v4 1)))then rec v0 v1 v2 (bG v3 (sub v0 v4 (bU .i64 v4 1))) (bU .i64 v4 1) v5 else none else none else bif(bJ y0.1.1 12)then bif(bJ y0.1.2.2.1 (bU .i64 v4 1))then bif(eU (bC v0) v4 (bU .i64 v4 1))then bif(eP v3 (sub v0 v4 (bU .i64 v4 1)))then rec v0 v1 v2 (bG v3 (sub v0 v4 (bU .i64 v4 1))) (bU .i64 v4 1) v5 else none else none else GN y0 v4 v0 v3 rec v1 v2 v5 else GN y0 v4 v0 v3 rec v1 v2 v5 else kE v3 v5
def vI:Nat->bM->(List iY)->Int->bM->Int->(List G9)->Option (aaZ.den⊕abD.den)
 |0,_,_,_,_,_,_=>none
 |n+1,v0,v1,v2,v3,v4,v5=>QR (vI n) (fun e0 e1=>some (.inl ((e0,()),(e1,())))) (fun r0=>some (.inr ((r0,()),()))) v0 v1 v2 v3 v4 v5
def azU (n:Nat) (v:aaq.den):=vI n v.1.1 v.1.2.1 v.1.2.2.1 v.1.2.2.2.1 v.1.2.2.2.2.1 v.2.1
noncomputable def akJ:di:=fD atL aaq aaZ abD (.exit 0) (azU bH) 6
def OG (x0:bM) (x1:List iY) (x2 x3:Int):Option ((List G9)×Unit):=bz (vI bH x0 x1 x3 [] x2 []) fun y0=>dE y0 (fun a1=>bif(!(fG a1.1.1 []))then bif(dO (bG a1.2.1 [(false,(true,(a1.1.1,())))]) 24)then some ((bG a1.2.1 [(false,(true,(a1.1.1,())))]),())else none else bif(bJ (bC a1.2.1) 0)then bif(dO (bG a1.2.1 [(false,(true,(a1.1.1,())))]) 24)then some ((bG a1.2.1 [(false,(true,(a1.1.1,())))]),())else none else some (a1.2.1,())) (fun b1=>some (b1.1.1,()))
def aw3:Sum:=⟨[.str,WR,cO,cO],[(.list WQ,false)],fun x=>OG x.1 x.2.1 x.2.2.1 x.2.2.2.1⟩
noncomputable def agx:Env:=iM prog tt 129 [(127,aiR)] [(4,atL)] [(4,akJ)]
def amd {γ:Type} (a:aaq.den->Option γ) (b:aaZ.den->Option γ) (c:abD.den->Option γ) (v:aaq.den):Option γ:=QR (fun v0 v1 v2 v3 v4 v5=>a ((v0,v1,v2,v3,v4,()),(v5,()))) (fun e0 e1=>b ((e0,()),(e1,()))) (fun r0=>c ((r0,()),())) v.1.1 v.1.2.1 v.1.2.2.1 v.1.2.2.2.1 v.1.2.2.2.2.1 v.2.1
theorem aAy:dG agx 129 aqP akJ:=uQ (amd) (h2:=by intros;simp only[amd,QR,bV,bW,bu,bQ,bY,wM,GN])
theorem aEM:dD agx 129 aHM:=nJ [aqP] (aD (fM (aAy)) aN)
theorem anA:eu agx:=eA Tryz.f129 (aD Yn aN) (aEM)
theorem apq:dH prog 129 aw3:=sA anA
noncomputable def b98:Code:=(f98.body).getD .skip
noncomputable def aBV:Code:=cA (cA (cA (cB (cB (cB (cB (cB (b98))))))))
def aCr:dW:=⟨[0,3,4,5,6,100005],[(4,.pair (.list .bool) WQ)],[4],[],[2],[(2,WQ)]⟩
def alQ:SP:=⟨us [.v .str,.u,.u,.v WR,.slc 1800004,.v .bool,.v cO] 130,[.arr 1800004 WQ]⟩
def ah8:SP:=⟨us [.u,.u,.u,.u,.slc 1800004] 132,[.arr 1800004 WQ]⟩
def aiA:SP:=⟨us [.u,.u,.v (.list WQ)] 134,[]⟩
def Fg {γ:Type} (y0:(iY×Int×Unit)) (v0:bM) (v3:Int) (v4:List G9) (v2:Bool) (rec:bM->(List iY)->Bool->Int->(List G9)->Option γ) (v1:List iY):Option γ:=bif(bJ y0.2.1 1)then bif(eU (bC v0) v3 y0.1.2.2.1)then bz (Xo v4 (sub v0 v3 y0.1.2.2.1) v2) fun y1=>rec v0 v1 false y0.1.2.2.1 y1.1 else none else bif(eU (bC v0) v3 (bU .i64 v3 1))then bz (Xo v4 (sub v0 v3 (bU .i64 v3 1)) v2) fun y1=>rec v0 v1 false (bU .i64 v3 1) y1.1 else none
def LQ {γ:Type} (y0:(iY×Int×Unit)) (v0:bM) (v4:List G9) (rec:bM->(List iY)->Bool->Int->(List G9)->Option γ) (v1:List iY) (v2:Bool):Option γ:=bif(bJ y0.1.1 13)then bif(bJ y0.1.2.2.1 (bU .i64 y0.1.2.1 2))then bif(fB v0 (bU .i64 y0.1.2.1 1))then bif(!(bJ (bT v0 (bU .i64 y0.1.2.1 1)) 10))then bif(eU (bC v0) (bU .i64 y0.1.2.1 1) y0.1.2.2.1)then bif(dO (bG v4 [(false,(true,((sub v0 (bU .i64 y0.1.2.1 1) y0.1.2.2.1),())))]) 24)then rec v0 v1 true y0.1.2.2.1 (bG v4 [(false,(true,((sub v0 (bU .i64 y0.1.2.1 1) y0.1.2.2.1),())))])else none else none else rec v0 v1 v2 y0.1.2.2.1 v4 else none else rec v0 v1 v2 y0.1.2.2.1 v4 else bif(bJ y0.1.1 4)then bif y0.1.2.2.2.2.1 then bif(eU (bC v0) (bU .i64 y0.1.2.1 1) y0.1.2.2.1)then bif(dO (bG v4 [(false,(true,((sub v0 (bU .i64 y0.1.2.1 1) y0.1.2.2.1),())))]) 24)then rec v0 v1 true y0.1.2.2.1 (bG v4 [(false,(true,((sub v0 (bU .i64 y0.1.2.1 1) y0.1.2.2.1),())))])else none else none else bif(eU (bC v0) (bU .i64 y0.1.2.1 1) (dR .i64 y0.1.2.2.1 1))then bif(dO (bG v4 [(false,(true,((sub v0 (bU .i64 y0.1.2.1 1) (dR .i64 y0.1.2.2.1 1)),())))]) 24)then rec v0 v1 true y0.1.2.2.1 (bG v4 [(false,(true,((sub v0 (bU .i64 y0.1.2.1 1) (dR .i64 y0.1.2.2.1 1)),())))])else none else none else bif(bJ y0.1.1 5)then bif y0.1.2.2.2.2.1 then bz (OG v0 v1 (bU .i64 y0.1.2.1 1) y0.1.2.2.1) fun y1=>bif(dO (bG v4 y1.1) 24)then rec v0 v1 true y0.1.2.2.1 (bG v4 y1.1)else none else bz (OG v0 v1 (bU .i64 y0.1.2.1 1) (dR .i64 y0.1.2.2.1 1)) fun y1=>bif(dO (bG v4 y1.1) 24)then rec v0 v1 true y0.1.2.2.1 (bG v4 y1.1)else none else bif(eU (bC v0) y0.1.2.1 y0.1.2.2.1)then bif(dO (bG v4 [(true,(false,((sub v0 y0.1.2.1 y0.1.2.2.1),())))]) 24)then rec v0 v1 true y0.1.2.2.1 (bG v4 [(true,(false,((sub v0 y0.1.2.1 y0.1.2.2.1),())))])else none else none
def acU {γ:Type} (rec:bM->(List iY)->Bool->Int->(List G9)->Option γ) (kE kR:(List G9)->Option γ) (v0:bM) (v1:List iY) (v2:Bool) (v3:Int) (v4:List G9):Option γ:=bif(gU v3 (bC v0))then bz (adP v1 v3) fun y0=>bif(bJ y0.2.1 0)then Fg y0 v0 v3 v4 v2 rec v1 else bif(bJ y0.1.1 14)then Fg y0 v0 v3 v4 v2 rec v1 else bif(bJ y0.1.1 12)then bif(bJ y0.1.2.2.1 (bU .i64 v3 1))then Fg y0 v0 v3 v4 v2 rec v1 else LQ y0 v0 v4 rec v1 v2 else LQ y0 v0 v4 rec v1 v2 else kE v4
def ql:Nat->bM->(List iY)->Bool->Int->(List G9)->Option (ah8.den⊕aiA.den)
 |0,_,_,_,_,_=>none
 |n+1,v0,v1,v2,v3,v4=>acU (ql n) (fun e0=>some (.inl ((),(e0,())))) (fun r0=>some (.inr ((r0,()),()))) v0 v1 v2 v3 v4
def aFJ (n:Nat) (v:alQ.den):=ql n v.1.1 v.1.2.1 v.1.2.2.1 v.1.2.2.2.1 v.2.1
noncomputable def ave:di:=fD aCr alQ ah8 aiA (.exit 0) (aFJ bH) 6
def azn (x0:bM):Option ((List G9)×Unit):=bz (ajC x0) fun y0=>bz (ql bH x0 y0.1 true 0 []) fun y1=>dE y1 (fun a2=>some (a2.2.1,())) (fun b2=>some (b2.1.1,()))
def aDh:Sum:=⟨[.str],[(.list WQ,false)],fun x=>azn x.1⟩
noncomputable def asw:Env:=iM prog tt 98 [(126,aw1),(127,aiR),(128,aw2),(129,aw3)] [(5,aCr)] [(5,ave)]
def aww {γ:Type} (a:alQ.den->Option γ) (b:ah8.den->Option γ) (c:aiA.den->Option γ) (v:alQ.den):Option γ:=acU (fun v0 v1 v2 v3 v4=>a ((v0,v1,v2,v3,()),(v4,()))) (fun e0=>b ((),(e0,()))) (fun r0=>c ((r0,()),())) v.1.1 v.1.2.1 v.1.2.2.1 v.1.2.2.2.1 v.2.1
theorem aGp:dG asw 98 aBV ave:=uQ (aww) (h2:=by intros;simp only[aww,acU,bV,bW,bu,bQ,bY,Fg,LQ])
theorem aIR:dD asw 98 b98:=nJ [aBV] (aD (fM (aGp)) aN)
theorem asx:eu asw:=eA f98 (aD apn (aD Yn (aD apo (aD apq aN)))) (aIR)
theorem ayd:dH prog 98 aDh:=sA asx
noncomputable def b73:Code:=(f73.body).getD .skip
noncomputable def aBL:Code:=cA (cA (cB (cA (cB (cB (cB (b73)))))))
def aCl:dW:=⟨[3,4,5,100004],[],[4],[],[2],[]⟩
def alG:SP:=⟨us [.u,.u,.u,.v (.list WQ),.v .str,.v cO] 16,[]⟩
def ahY:SP:=⟨us [.u,.u,.u,.u,.v .str] 17,[]⟩
def aiq:SP:=⟨us [.u,.u,.v .str] 19,[]⟩
def acM {γ:Type} (rec:(List G9)->bM->Int->Option γ) (kE kR:bM->Option γ) (v0:List G9) (v1:bM) (v2:Int):Option γ:=bif(gU v2 (bC v0))then bif(fB v0 v2)then bif(eP v1 (dQ v0 (false,(false,([],()))) v2).2.2.1)then rec v0 (bG v1 (dQ v0 (false,(false,([],()))) v2).2.2.1) (bU .i64 v2 1)else none else none else kE v1
def Nk:Nat->(List G9)->bM->Int->Option (ahY.den⊕aiq.den)
 |0,_,_,_=>none
 |n+1,v0,v1,v2=>acM (Nk n) (fun e0=>some (.inl ((e0,()),()))) (fun r0=>some (.inr ((r0,()),()))) v0 v1 v2
def aFz (n:Nat) (v:alG.den):=Nk n v.1.1 v.1.2.1 v.1.2.2.1
noncomputable def au4:di:=fD aCl alG ahY aiq (.exit 0) (aFz bH) 6
def atg (x0:bM):Option Qh:=bz (azn x0) fun y0=>bz (Nk bH y0.1 [] 0) fun y1=>dE y1 (fun a2=>some (a2.1.1,())) (fun b2=>some (b2.1.1,()))
def aC9:Sum:=⟨[.str],V7,fun x=>atg x.1⟩
noncomputable def ar7:Env:=iM prog tt 73 [(98,aDh)] [(4,aCl)] [(4,au4)]
def awm {γ:Type} (a:alG.den->Option γ) (b:ahY.den->Option γ) (c:aiq.den->Option γ) (v:alG.den):Option γ:=acM (fun v0 v1 v2=>a ((v0,v1,v2,()),())) (fun e0=>b ((e0,()),())) (fun r0=>c ((r0,()),())) v.1.1 v.1.2.1 v.1.2.2.1
theorem aGf:dG ar7 73 aBL au4:=uQ (awm) (h2:=by intros;simp only[awm,acM,bV,bW,bu,bQ,bY])
theorem aIH:dD ar7 73 b73:=nJ [aBL] (aD (fM (aGf)) aN)
theorem ar8:eu ar7:=eA f73 (aD ayd aN) (aIH)
theorem ax0:dH prog 73 aC9:=sA ar8
end
section
open Tryz
open Go.RowKit
noncomputable def b43:Code:=(f43.body).getD .skip
noncomputable def ard:Code:=cA (cA (cA (cB (cA (cB (cA (cB (cB (cB (cB (cB (b43))))))))))))
noncomputable def arf:Code:=cA (cA (cA (cB (cB (cB (cB (cB (cB (cB (cB (b43)))))))))))
def aue:dW:=⟨[0,1,6,7,11,12,100014],[],[1,6,7,11,12],[],[6,7],[]⟩
def auf:dW:=⟨[0,1,5,6,7,11,14,100023],[],[0,1,5,6,7,11,14],[],[6,7],[]⟩
def aaP:SP:=⟨us [.v .str,.v cO,.u,.u,.u,.u,.ptr 1000006 0,.ptr 1000007 0,.u,.u,.u,.ptr 1000011 0,.v cO] 173,[.box 1000011 40 [.v cO,.v V6,.v .bool],.box 1000007 40 [.v cO,.nils,.v .bool],.box 1000006 35 [.v cO,.v cO,.v cO,.v .bool]]⟩
def abp:SP:=⟨us [.u,.v cO,.u,.u,.u,.u,.ptr 1000006 0,.ptr 1000007 0,.u,.u,.u,.ptr 1000011 0,.v cO] 173,[.box 1000011 40 [.v cO,.v V6,.v .bool],.box 1000007 40 [.v cO,.nils,.v .bool],.box 1000006 35 [.v cO,.v cO,.v cO,.v .bool]]⟩
def ab3:SP:=⟨us [] 186,[]⟩
def Rk {γ:Type} (rec:bM->Int->Int->Int->qJ->Bool->Int->Bool->Int->Int->Int->Bool->Option γ) (kE:Int->Int->Int->qJ->Bool->Int->Bool->Int->Int->Int->Bool->Option γ) (kR:Option γ) (v0:bM) (v1 v2 v3:Int) (v4:qJ) (v5:Bool) (v6:Int) (v7:Bool) (v8 v9 v10:Int) (v11:Bool):Option γ:=bif(gU v2 (bC v0))then bif(fB v0 v2)then bif(!(bJ (bT v0 v2) 10))then rec v0 v1 (bU .i64 v2 1) v3 v4 v5 v6 v7 v8 v9 v10 v11 else kE v1 v2 v3 v4 v5 v6 v7 v8 v9 v10 v11 else none else kE v1 v2 v3 v4 v5 v6 v7 v8 v9 v10 v11
def Kz:Nat->bM->Int->Int->Int->qJ->Bool->Int->Bool->Int->Int->Int->Bool->Option (abp.den⊕ab3.den)
 |0,_,_,_,_,_,_,_,_,_,_,_,_=>none
 |n+1,v0,v1,v2,v3,v4,v5,v6,v7,v8,v9,v10,v11=>Rk (Kz n) (fun e0 e1 e2 e3 e4 e5 e6 e7 e8 e9 e10=>some (.inl ((e0,e1,()),((e2,e3,e4,()),(e5,e6,()),(e7,e8,e9,e10,()),())))) (some (.inr ((),()))) v0 v1 v2 v3 v4 v5 v6 v7 v8 v9 v10 v11
def aAj (n:Nat) (v:aaP.den):=Kz n v.1.1 v.1.2.1 v.1.2.2.1 v.2.1.1 v.2.1.2.1 v.2.1.2.2.1 v.2.2.1.1 v.2.2.1.2.1 v.2.2.2.1.1 v.2.2.2.1.2.1 v.2.2.2.1.2.2.1 v.2.2.2.1.2.2.2.1
noncomputable def ak7:di:=fD aue aaP abp ab3 (.exit 0) (aAj bH) 6
def aaQ:SP:=⟨us [.v .str,.v cO,.u,.u,.u,.ptr 1000005 0,.ptr 1000006 0,.ptr 1000007 0,.u,.u,.u,.ptr 1000011 0,.u,.u,.v cO] 171,[.box 1000011 40 [.v cO,.v V6,.v .bool],.box 1000007 40 [.v cO,.nils,.v .bool],.box 1000006 35 [.v cO,.v cO,.v cO,.v .bool],.box 1000005 40 [.v cO,.v V6,.v .bool]]⟩
def KW:SP:=⟨us [.v .str,.v cO,.u,.u,.u,.ptr 1000005 0,.ptr 1000006 0,.ptr 1000007 0,.u,.u,.u,.ptr 1000011 0,.u,.u,.v cO] 171,[.box 1000011 40 [.v cO,.v V6,.v .bool],.box 1000007 40 [.v cO,.nils,.v .bool],.box 1000006 35 [.v cO,.v cO,.v cO,.v .bool],.box 1000005 40 [.v cO,.v V6,.v .bool]]⟩
def ab4:SP:=⟨us [] 186,[]⟩
def Rl {γ:Type} (rec kE:bM->Int->Int->Int->qJ->Bool->Int->Bool->Int->Int->Int->Bool->Int->qJ->Bool->Option γ) (kR:Option γ) (v0:bM) (v1 v2 v3:Int) (v4:qJ) (v5:Bool) (v6:Int) (v7:Bool) (v8 v9 v10:Int) (v11:Bool) (v12:Int) (v13:qJ) (v14:Bool):Option γ:=bif(gU v2 (bC v0))then bif(fB v0 v2)then bz (MO (bT v0 v2)) fun y0=>bif(bJ y0.1 6)then rec v0 v1 (bU .i64 v2 1) v3 v4 v5 v6 v7 v8 v9 v10 v11 v12 v13 v14 else kE v0 v1 v2 v3 v4 v5 v6 v7 v8 v9 v10 v11 v12 v13 v14 else none else kE v0 v1 v2 v3 v4 v5 v6 v7 v8 v9 v10 v11 v12 v13 v14
def KA:Nat->bM->Int->Int->Int->qJ->Bool->Int->Bool->Int->Int->Int->Bool->Int->qJ->Bool->Option (KW.den⊕ab4.den)
 |0,_,_,_,_,_,_,_,_,_,_,_,_,_,_,_=>none
 |n+1,v0,v1,v2,v3,v4,v5,v6,v7,v8,v9,v10,v11,v12,v13,v14=>Rl (KA n) (fun e0 e1 e2 e3 e4 e5 e6 e7 e8 e9 e10 e11 e12 e13 e14=>some (.inl ((e0,e1,e2,()),((e3,e4,e5,()),(e6,e7,()),(e8,e9,e10,e11,()),(e12,e13,e14,()),())))) (some (.inr ((),()))) v0 v1 v2 v3 v4 v5 v6 v7 v8 v9 v10 v11 v12 v13 v14
def aAk (n:Nat) (v:aaQ.den):=KA n v.1.1 v.1.2.1 v.1.2.2.1 v.2.1.1 v.2.1.2.1 v.2.1.2.2.1 v.2.2.1.1 v.2.2.1.2.1 v.2.2.2.1.1 v.2.2.2.1.2.1 v.2.2.2.1.2.2.1 v.2.2.2.1.2.2.2.1 v.2.2.2.2.1.1 v.2.2.2.2.1.2.1 v.2.2.2.2.1.2.2.1
noncomputable def ak8:di:=fD auf aaQ KW ab4 (.exit 2) (aAk bH) 12
def zk (x2:Int×qJ×oP):=nH PZ x2.2.1 x2.2.1
def ag2 (y1:DT) (x2:Int×qJ×oP) (x1:Int):Option taT:=bz (Zr y1.1) fun y2=>bif((bJ y1.1 y1.1)&&((zk x2)&&((jl false false)&&true)))then some ((4,(x1,((bU .i64 x1 (bC y2.1)),(false,())))),((y1.1,(x2.2.1,(false,()))),()))else none
def ag3 (a3:KW.den):Option taT:=bif((bJ a3.2.1.1 a3.2.1.1)&&((nH PZ a3.2.1.2.1 a3.2.1.2.1)&&((jl a3.2.1.2.2.1 a3.2.1.2.2.1)&&true)))then some ((5,(a3.1.2.1,(a3.1.2.2.1,(false,())))),((a3.2.1.1,(a3.2.1.2.1,(a3.2.1.2.2.1,()))),()))else none
def Zq (a3:KW.den):Option taT:=bz (aot a3.1.1 a3.1.2.1) fun y4=>bif(eU (bC a3.1.1) a3.1.2.1 y4.1)then bif(!(bJ a3.2.2.2.2.1.1 0))then bif(nH PZ a3.2.2.2.2.1.2.1 a3.2.2.2.2.1.2.1)then bif(fG (sub a3.1.1 a3.1.2.1 y4.1) (sub a3.1.1 a3.1.2.1 y4.1))then bif(bJ a3.2.2.2.2.1.1 a3.2.2.2.2.1.1)then bif(jl (bJ a3.2.2.2.2.1.1 5) (bJ a3.2.2.2.2.1.1 5))then bif(dO (bG [] a3.2.2.2.2.1.2.1) 24)then bif(fG (sub a3.1.1 a3.1.2.1 y4.1) (sub a3.1.1 a3.1.2.1 y4.1))then bif(bJ a3.2.2.2.2.1.1 a3.2.2.2.2.1.1)then bif(jl (bJ a3.2.2.2.2.1.1 5) (bJ a3.2.2.2.2.1.1 5))then bz (atg (sub a3.1.1 a3.1.2.1 y4.1)) fun y5=>bif(nH PZ a3.2.2.2.2.1.2.1 a3.2.2.2.2.1.2.1)then bif(fG (sub a3.1.1 a3.1.2.1 y4.1) (sub a3.1.1 a3.1.2.1 y4.1))then bif(bJ a3.2.2.2.2.1.1 a3.2.2.2.2.1.1)then bif(jl (bJ a3.2.2.2.2.1.1 5) (bJ a3.2.2.2.2.1.1 5))then bif(((fG (sub a3.1.1 a3.1.2.1 y4.1) (sub a3.1.1 a3.1.2.1 y4.1))&&true)&&((fG y5.1 y5.1)&&true))then bif(dO (bG (bG [] a3.2.2.2.2.1.2.1) [(y5.1,((bJ a3.2.2.2.2.1.1 5),()))]) 24)then bif(nH PZ a3.2.2.2.2.1.2.1 a3.2.2.2.2.1.2.1)then bif(fG (sub a3.1.1 a3.1.2.1 y4.1) (sub a3.1.1 a3.1.2.1 y4.1))then bif(bJ a3.2.2.2.2.1.1 a3.2.2.2.2.1.1)then bif(jl (bJ a3.2.2.2.2.1.1 5) (bJ a3.2.2.2.2.1.1 5))then bif((fG y5.1 y5.1)&&((jl (bJ a3.2.2.2.2.1.1 5) (bJ a3.2.2.2.2.1.1 5))&&true))then bz (ag5 (sub a3.1.1 a3.1.2.1 y4.1)) fun y6=>bif((bJ a3.2.1.1 a3.2.1.1)&&((jl a3.2.1.2.2.1 a3.2.1.2.2.1)&&true))then some ((6,(a3.1.2.1,(y4.1,((!y6.1),())))),((a3.2.1.1,((bG (bG [] a3.2.2.2.2.1.2.1) [(y5.1,((bJ a3.2.2.2.2.1.1 5),()))]),(a3.2.1.2.2.1,()))),()))else none else none else none else none else none else none else none else none else none else none else none else none else none else none else none else none else none else none else none else none else bz (ag5 (sub a3.1.1 a3.1.2.1 y4.1)) fun y5=>bif((bJ a3.2.1.1 a3.2.1.1)&&((nH PZ a3.2.1.2.1 a3.2.1.2.1)&&((jl a3.2.1.2.2.1 a3.2.1.2.2.1)&&true)))then some ((6,(a3.1.2.1,(y4.1,((!y5.1),())))),((a3.2.1.1,(a3.2.1.2.1,(a3.2.1.2.2.1,()))),()))else none else none
def azb (x0:bM) (x1:Int) (x2:Int×qJ×oP):Option taT:=bif x2.2.2.1 then bif(fB x2.2.1 0)then bz (azf x0 x1 (dQ x2.2.1 ([],(false,())) 0)) fun y0=>bif(bJ y0.2.1 0)then bif((bJ x2.1 x2.1)&&((zk x2)&&((jl x2.2.2.1 x2.2.2.1)&&true)))then some ((7,(x1,(y0.1,(true,())))),((x2.1,(x2.2.1,(x2.2.2.1,()))),()))else none else bif(eU (bC x2.2.1) 1 (bC x2.2.1))then bif(bJ x2.1 x2.1)then bif(zk x2)then bif(eU (bC x2.2.1) 1 (bC x2.2.1))then bif(nH PZ (sub x2.2.1 1 (bC x2.2.1)) (sub x2.2.1 1 (bC x2.2.1)))then bif(zk x2)then bif(bJ (bC x2.2.1) (bC x2.2.1))then bif(jl (gU 1 (bC x2.2.1)) (gU 1 (bC x2.2.1)))then bif((bJ x2.1 x2.1)&&((nH PZ (sub x2.2.1 1 (bC x2.2.1)) (sub x2.2.1 1 (bC x2.2.1)))&&((jl (gU 1 (bC x2.2.1)) (gU 1 (bC x2.2.1)))&&true)))then some ((7,(x1,(y0.1,(false,())))),((x2.1,((sub x2.2.1 1 (bC x2.2.1)),((gU 1 (bC x2.2.1)),()))),()))else none else none else none else none else none else none else none else none else none else none else bz (azg x0 x1) fun y0=>bif(gU x1 y0.1)then bif((bJ x2.1 x2.1)&&((zk x2)&&((jl x2.2.2.1 x2.2.2.1)&&true)))then some ((1,(x1,(y0.1,(false,())))),((x2.1,(x2.2.1,(x2.2.2.1,()))),()))else none else bif(fB x0 x1)then bif(bJ (bT x0 x1) 10)then bif(zk x2)then bif(zk x2)then bif(bJ (bC x2.2.1) (bC x2.2.1))then bif(jl (gU 0 (bC x2.2.1)) (gU 0 (bC x2.2.1)))then bif((bJ 0 0)&&((zk x2)&&((jl (gU 0 (bC x2.2.1)) (gU 0 (bC x2.2.1)))&&true)))then some ((2,(x1,((bU .i64 x1 1),(false,())))),((0,(x2.2.1,((gU 0 (bC x2.2.1)),()))),()))else none else none else none else none else none else bif(fB x0 x1)then bif(bJ (bT x0 x1) 35)then bz (Kz bH x0 x1 x1 0 x2.2.1 false 0 false 0 0 0 false) fun y1=>dE y1 (fun a2=>bif((bJ a2.2.1.1 a2.2.1.1)&&((nH PZ a2.2.1.2.1 a2.2.1.2.1)&&((jl a2.2.1.2.2.1 a2.2.1.2.2.1)&&true)))then some ((3,(a2.1.1,(a2.1.2.1,(false,())))),((a2.2.1.1,(a2.2.1.2.1,(a2.2.1.2.2.1,()))),()))else none) (fun b2=>none)else bz (atf x0 x1) fun y1=>bif(gU 0 y1.1)then bif(bJ y1.1 4)then ag2 y1 x2 x1 else bif(bJ y1.1 5)then ag2 y1 x2 x1 else bz (Zr y1.1) fun y2=>bif((bJ 0 0)&&((zk x2)&&((jl false false)&&true)))then some ((4,(x1,((bU .i64 x1 (bC y2.1)),(false,())))),((0,(x2.2.1,(false,()))),()))else none else bz (KA bH x0 x1 x1 0 x2.2.1 false 0 false 0 0 0 false x2.1 x2.2.1 x2.2.2.1) fun y2=>dE y2 (fun a3=>bif(gU a3.1.2.1 a3.1.2.2.1)then bif(gU a3.1.2.2.1 (bC a3.1.1))then bif(fB a3.1.1 a3.1.2.2.1)then bif(bJ (bT a3.1.1 a3.1.2.2.1) 60)then ag3 a3 else bif(fB a3.1.1 a3.1.2.2.1)then bif(bJ (bT a3.1.1 a3.1.2.2.1) 62)then ag3 a3 else Zq a3 else none else none else Zq a3 else Zq a3) (fun b3=>none)else none else none
def aCZ:Sum:=⟨[.str,cO,.pair cO tyL],tzJ,fun x=>azb x.1 x.2.1 x.2.2.1⟩
noncomputable def ajt:Env:=iM prog tt 43 [(67,aC5),(68,aC6),(69,aC7),(70,am5),(71,afP),(72,aC8),(73,aC9),(74,aDa)] [(14,aue),(23,auf)] [(14,ak7),(23,ak8)]
def amE {γ:Type} (a:aaP.den->Option γ) (b:abp.den->Option γ) (c:ab3.den->Option γ) (v:aaP.den):Option γ:=Rk (fun v0 v1 v2 v3 v4 v5 v6 v7 v8 v9 v10 v11=>a ((v0,v1,v2,()),((v3,v4,v5,()),(v6,v7,()),(v8,v9,v10,v11,()),()))) (fun e0 e1 e2 e3 e4 e5 e6 e7 e8 e9 e10=>b ((e0,e1,()),((e2,e3,e4,()),(e5,e6,()),(e7,e8,e9,e10,()),()))) (c ((),())) v.1.1 v.1.2.1 v.1.2.2.1 v.2.1.1 v.2.1.2.1 v.2.1.2.2.1 v.2.2.1.1 v.2.2.1.2.1 v.2.2.2.1.1 v.2.2.2.1.2.1 v.2.2.2.1.2.2.1 v.2.2.2.1.2.2.2.1
theorem aAX:dG ajt 43 ard ak7:=uQ (amE) (h2:=by intros;simp only[amE,Rk,bV,bW,bu,bQ,bY])
def amF {γ:Type} (a:aaQ.den->Option γ) (b:KW.den->Option γ) (c:ab4.den->Option γ) (v:aaQ.den):Option γ:=Rl (fun v0 v1 v2 v3 v4 v5 v6 v7 v8 v9 v10 v11 v12 v13 v14=>a ((v0,v1,v2,()),((v3,v4,v5,()),(v6,v7,()),(v8,v9,v10,v11,()),(v12,v13,v14,()),()))) (fun e0 e1 e2 e3 e4 e5 e6 e7 e8 e9 e10 e11 e12 e13 e14=>b ((e0,e1,e2,()),((e3,e4,e5,()),(e6,e7,()),(e8,e9,e10,e11,()),(e12,e13,e14,()),()))) (c ((),())) v.1.1 v.1.2.1 v.1.2.2.1 v.2.1.1 v.2.1.2.1 v.2.1.2.2.1 v.2.2.1.1 v.2.2.1.2.1 v.2.2.2.1.1 v.2.2.2.1.2.1 v.2.2.2.1.2.2.1 v.2.2.2.1.2.2.2.1 v.2.2.2.2.1.1 v.2.2.2.2.1.2.1 v.2.2.2.2.1.2.2.1
theorem aAY:dG ajt 43 arf ak8:=uQ (amF) (h2:=by intros;simp only[amF,Rl,bV,bW,bu,bQ,bY])
theorem aIw:dD ajt 43 b43:=nJ [ard,arf] (aD (fM (aAX)) (aD (fM (aAY)) aN))
theorem arN:eu ajt:=eA f43 (aD axW (aD axX (aD axY (aD VE (aD xI (aD axZ (aD ax0 (aD ax1 aN)))))))) (aIw)
theorem axL:dH prog 43 aCZ:=sA arN
noncomputable def b19:Code:=(f19.body).getD .skip
noncomputable def aBs:Code:=cA (cA (cA (cB (cB (cB (cB (b19)))))))
def aB5:dW:=⟨[0,3,4,5,6,100004],[(4,Qi)],[3,4,5],[],[2,3],[(2,Qi)]⟩
def alk:SP:=⟨us [.v .str,.u,.u,.ptr 1000003 0,.slc 1800004,.ptr 1000005 0,.v cO] 23,[.arr 1800004 Qi,.box 1000005 40 [.v cO,.v V6,.v .bool],.box 1000003 40 [.v cO,.nils,.v .bool]]⟩
def ahJ:SP:=⟨us [.u,.u,.u,.ptr 1000003 0,.slc 1800004,.ptr 1000005 0] 24,[.arr 1800004 Qi,.box 1000005 40 [.v cO,.v V6,.v .bool],.box 1000003 40 [.v cO,.nils,.v .bool]]⟩
def aib:SP:=⟨us [.u,.u,.v (.list Qi)] 27,[]⟩
def acx {γ:Type} (rec:bM->Int->(List wE)->Int->qJ->Bool->Int->Bool->Option γ) (kE:(List wE)->Int->qJ->Bool->Int->Bool->Option γ) (kR:(List wE)->Option γ) (v0:bM) (v1:Int) (v2:List wE) (v3:Int) (v4:qJ) (v5:Bool) (v6:Int) (v7:Bool):Option γ:=bif(gU v1 (bC v0))then bz (azb v0 v1 (v3,(v4,(v5,())))) fun y0=>bif(dO (bG v2 [(y0.1.1,(y0.1.2.1,(y0.1.2.2.1,(y0.1.2.2.2.1,()))))]) 32)then rec v0 y0.1.2.2.1 (bG v2 [(y0.1.1,(y0.1.2.1,(y0.1.2.2.1,(y0.1.2.2.2.1,()))))]) y0.2.1.1 y0.2.1.2.1 y0.2.1.2.2.1 v6 v7 else none else kE v2 v3 v4 v5 v6 v7
def MW:Nat->bM->Int->(List wE)->Int->qJ->Bool->Int->Bool->Option (ahJ.den⊕aib.den)
 |0,_,_,_,_,_,_,_,_=>none
 |n+1,v0,v1,v2,v3,v4,v5,v6,v7=>acx (MW n) (fun e0 e1 e2 e3 e4 e5=>some (.inl ((),(e0,(e1,e2,e3,()),(e4,e5,()),())))) (fun r0=>some (.inr ((r0,()),()))) v0 v1 v2 v3 v4 v5 v6 v7
def aFg (n:Nat) (v:alk.den):=MW n v.1.1 v.1.2.1 v.2.1 v.2.2.1.1 v.2.2.1.2.1 v.2.2.1.2.2.1 v.2.2.2.1.1 v.2.2.2.1.2.1
noncomputable def auL:di:=fD aB5 alk ahJ aib (.exit 0) (aFg bH) 6
def aop (x0:bM):Option ((List wE)×(Int×qJ×oP)×Unit):=bz (MW bH x0 0 [] 0 [] false 0 false) fun y0=>dE y0 (fun a1=>some (a1.2.1,((a1.2.2.1.1,(a1.2.2.1.2.1,(a1.2.2.1.2.2.1,()))),()))) (fun b1=>none)
def axf:Sum:=⟨[.str],[(.list Qi,false),(.pair cO tyL,false)],fun x=>aop x.1⟩
noncomputable def arA:Env:=iM prog tt 19 [(43,aCZ)] [(4,aB5)] [(4,auL)]
def av1 {γ:Type} (a:alk.den->Option γ) (b:ahJ.den->Option γ) (c:aib.den->Option γ) (v:alk.den):Option γ:=acx (fun v0 v1 v2 v3 v4 v5 v6 v7=>a ((v0,v1,()),(v2,(v3,v4,v5,()),(v6,v7,()),()))) (fun e0 e1 e2 e3 e4 e5=>b ((),(e0,(e1,e2,e3,()),(e4,e5,()),()))) (fun r0=>c ((r0,()),())) v.1.1 v.1.2.1 v.2.1 v.2.2.1.1 v.2.2.1.2.1 v.2.2.1.2.2.1 v.2.2.2.1.1 v.2.2.2.1.2.1
theorem aFW:dG arA 19 aBs auL:=uQ (av1) (h2:=by intros;simp only[av1,acx,bV,bW,bu,bQ,bY])
theorem aIp:dD arA 19 b19:=nJ [aBs] (aD (fM (aFW)) aN)
theorem arB:eu arA:=eA f19 (aD axL aN) (aIp)
theorem VC:dH prog 19 axf:=sA arB
noncomputable def b20:Code:=(f20.body).getD .skip
noncomputable def aBt:Code:=cA (cA (cB (cA (cB (cB (cB (b20)))))))
def aB6:dW:=⟨[0,3,5,6,100004],[(5,tyD)],[5],[],[2],[(2,tyD)]⟩
def alm:SP:=⟨us [.v .str,.u,.u,.v (.list Qi),.u,.slc 1800005,.v cO] 59,[.arr 1800005 tyD]⟩
def ahK:SP:=⟨us [.u,.u,.u,.u,.u,.slc 1800005] 60,[.arr 1800005 tyD]⟩
def aic:SP:=⟨us [.u,.u,.v nK] 63,[]⟩
def jq (v1:List wE) (v2:Int):=dQ v1 (0,(0,(0,(false,())))) v2
def Bh {γ:Type} (v1:List wE) (v2:Int) (v0:bM) (v3:List fU) (rec:bM->(List wE)->Int->(List fU)->Option γ):Option γ:=bif(fB v1 v2)then bif(fB v1 v2)then bif(fB v1 v2)then bif(fB v1 v2)then bif(eU (bC v0) (jq v1 v2).2.1 (jq v1 v2).2.2.1)then bif(dO (bG v3 [((jq v1 v2).1,((sub v0 (jq v1 v2).2.1 (jq v1 v2).2.2.1),((jq v1 v2).2.1,((jq v1 v2).2.2.1,()))))]) 40)then rec v0 v1 (bU .i64 v2 1) (bG v3 [((jq v1 v2).1,((sub v0 (jq v1 v2).2.1 (jq v1 v2).2.2.1),((jq v1 v2).2.1,((jq v1 v2).2.2.1,()))))])else none else none else none else none else none else none
def acy {γ:Type} (rec:bM->(List wE)->Int->(List fU)->Option γ) (kE kR:(List fU)->Option γ) (v0:bM) (v1:List wE) (v2:Int) (v3:List fU):Option γ:=bif(gU v2 (bC v1))then bif(fB v1 v2)then bif(bJ (jq v1 v2).1 2)then Bh v1 v2 v0 v3 rec else bif(bJ (jq v1 v2).1 4)then Bh v1 v2 v0 v3 rec else bif(bJ (jq v1 v2).1 5)then Bh v1 v2 v0 v3 rec else bif(bJ (jq v1 v2).1 6)then Bh v1 v2 v0 v3 rec else rec v0 v1 (bU .i64 v2 1) v3 else none else kE v3
def IW:Nat->bM->(List wE)->Int->(List fU)->Option (ahK.den⊕aic.den)
 |0,_,_,_,_=>none
 |n+1,v0,v1,v2,v3=>acy (IW n) (fun e0=>some (.inl ((),(e0,())))) (fun r0=>some (.inr ((r0,()),()))) v0 v1 v2 v3
def aFh (n:Nat) (v:alm.den):=IW n v.1.1 v.1.2.1 v.1.2.2.1 v.2.1
noncomputable def auM:di:=fD aB6 alm ahK aic (.exit 0) (aFh bH) 6
def ay5 (x0:bM):Option ((List fU)×Unit):=bz (aop x0) fun y0=>bz (IW bH x0 y0.1 0 []) fun y1=>dE y1 (fun a2=>some (a2.2.1,())) (fun b2=>some (b2.1.1,()))
def aCO:Sum:=⟨[.str],[(.list tyD,false)],fun x=>ay5 x.1⟩
noncomputable def arC:Env:=iM prog tt 20 [(19,axf)] [(4,aB6)] [(4,auM)]
def av2 {γ:Type} (a:alm.den->Option γ) (b:ahK.den->Option γ) (c:aic.den->Option γ) (v:alm.den):Option γ:=acy (fun v0 v1 v2 v3=>a ((v0,v1,v2,()),(v3,()))) (fun e0=>b ((),(e0,()))) (fun r0=>c ((r0,()),())) v.1.1 v.1.2.1 v.1.2.2.1 v.2.1
theorem aFX:dG arC 20 aBt auM:=uQ (av2) (h2:=by intros;simp only[av2,acy,bV,bW,bu,bQ,bY,jq,Bh])
theorem aIq:dD arC 20 b20:=nJ [aBt] (aD (fM (aFX)) aN)
theorem arD:eu arC:=eA f20 (aD VC aN) (aIq)
theorem axm:dH prog 20 aCO:=sA arD
end
section
open Tryz
open Go.RowKit
def ML (x1:List wE):=dQ x1 (0,(0,(0,(false,())))) (dR .i64 (bC x1) 1)
def atb (x0:bM) (x1:List wE) (x2:Int) (x3:qJ) (x4:Bool) (x5:List fU) (x6:List fZ):Option (taV×(wE×Bool×Unit)):=bif(bJ (bC x1) 0)then some ((x0,(x1,(x2,(x3,(x4,(x5,(x6,()))))))),((0,(0,(0,(false,())))),(false,())))else bif(fB x1 (dR .i64 (bC x1) 1))then bif(!(ML x1).2.2.2.1)then some ((x0,(x1,(x2,(x3,(x4,(x5,(x6,()))))))),((0,(0,(0,(false,())))),(false,())))else bif(fB x1 (dR .i64 (bC x1) 1))then some ((x0,(x1,(x2,(x3,(x4,(x5,(x6,()))))))),(((ML x1).1,((ML x1).2.1,((ML x1).2.2.1,((ML x1).2.2.2.1,())))),(true,())))else none else none
def aCN:fP:=⟨45,tzF,[],[Qi,.bool],fun x y=>atb x.1 x.2.1 x.2.2.1 x.2.2.2.1 x.2.2.2.2.1 x.2.2.2.2.2.1 x.2.2.2.2.2.2.1⟩
theorem afK:dM prog 13 aCN:=qB [] aN
noncomputable def agn:Code:=(f60.body).getD .skip
noncomputable def BH:Code:=(f61.body).getD .skip
noncomputable def adt:Code:=cA (cA (cB (agn)))
def aeo:dW:=⟨[0,5,6,7,61000001],[(300000200,.pair (.list .unit) cO)],[],[],[],[]⟩
def XC:dW:=⟨[2,4],[],[],[],[],[]⟩
def aoF:dW:=⟨[0,3,4,5,6,7],[],[],[],[],[]⟩
def KR:SQ:=⟨us [.yld 3700007,.u,.u,.u,.u,.v (.list lG),.v cO,.v cO] 19,[us [.u,.u,.ptr 3000002 0,.u,.nils] 8,[.yld 3700007],[.fn 60 [(2000001,0)],.u,.u,.fn 60 [(2000001,0)],.u],[.v (.list lG),.u,.u,.v (.list lG),.fn 60 [(2000001,0)],.u],[]],[.lp 3700007 61 (us [.u,.u,.ptr 3000002 0,.u,.nils] 8) [7] 3 0 none,.arr 3500002 cO,.box 3000002 80 [.slc 3500002],.box 2000001 43 [.v (.list lG)]]⟩
def NH:SQ:=⟨us [] 27,[us [.u,.u,.ptr 3000002 0,.u,.nils] 8,[.yld 3700007],[.fn 60 [(2000001,0)],.u,.u,.fn 60 [(2000001,0)],.u],[.v (.list lG),.u,.u,.v (.list lG),.fn 60 [(2000001,0)],.u],[]],[.lp 3700007 61 (us [.u,.u,.ptr 3000002 0,.u,.nils] 8) [7] 3 0 none,.arr 3500002 cO,.box 3000002 80 [.slc 3500002],.box 2000001 43 [.v (.list lG)]]⟩
def NM:SQ:=⟨us [] 27,[us [.u,.u,.ptr 3000002 0,.u,.nils] 8,[.yld 3700007],[.fn 60 [(2000001,0)],.u,.u,.fn 60 [(2000001,0)],.u],[.v (.list lG),.u,.u,.v (.list lG),.fn 60 [(2000001,0)],.u],[]],[]⟩
def GV {γ:Type} (rec:(List fZ)->Int->Int->(List fZ)->(List fZ)->iC->(List fZ)->Option γ) (kE:(List fZ)->(List fZ)->iC->(List fZ)->Option γ) (kR:(List fZ)->(List fZ)->Option γ) (v0:List fZ) (v1 v2:Int) (v3 v4:List fZ) (v5:iC) (v6:List fZ):Option γ:=bif(gU v2 v1)then bif(fB v0 v2)then bif(bJ (dQ v0 (0,(0,(0,(0,())))) v2).1 17)then bif(dO (bG v5 [v2]) 8)then rec v0 v1 (bU .i64 v2 1) v3 v4 (bG v5 [v2]) v6 else none else bif(bJ (dQ v0 (0,(0,(0,(0,())))) v2).1 18)then bif(dO (bG v5 [v2]) 8)then rec v0 v1 (bU .i64 v2 1) v3 v4 (bG v5 [v2]) v6 else none else rec v0 v1 (bU .i64 v2 1) v3 v4 v5 v6 else none else kE v3 v4 v5 v6
def AV:Nat->(List fZ)->Int->Int->(List fZ)->(List fZ)->iC->(List fZ)->Option (NH.den⊕NM.den)
 |0,_,_,_,_,_,_,_=>none
 |n+1,v0,v1,v2,v3,v4,v5,v6=>GV (AV n) (fun e0 e1 e2 e3=>some (.inl ((),((),(),(),(e0,e1,()),(),()),((),e2,(),(e3,()),())))) (fun r0 r1=>some (.inr ((),((),(),(),(r0,r1,()),(),()),()))) v0 v1 v2 v3 v4 v5 v6
def aoS (n:Nat) (v:KR.den):=AV n v.1.1 v.1.2.1 v.1.2.2.1 v.2.1.2.2.2.1.1 v.2.1.2.2.2.1.2.1 v.2.2.2.1 v.2.2.2.2.2.1.1
noncomputable def XI:di:=eX aeo KR NH NM (.exit 0) (aoS bH) 6
def ay9 (x0:List fZ):Option (iC×Unit):=bz (AV bH x0 (bC x0) 0 x0 x0 [] x0) fun y0=>dE y0 (fun a1=>some (a1.2.2.2.1,())) (fun b1=>none)
def aCU:Sum:=⟨[.list lG],[(.list cO,false)],fun x=>ay9 x.1⟩
noncomputable def ajs:Env:=gy prog tt [] [(60,1,aeo),(61,500003,XC),(34,600001,oC),(60,600003,aoF),(36,600001,oC)] [(60,1,XI)] [61]
def Ye {γ:Type} (a:KR.den->Option γ) (b:NH.den->Option γ) (c:NM.den->Option γ) (v:KR.den):Option γ:=GV (fun v0 v1 v2 v3 v4 v5 v6=>a ((v0,v1,v2,()),((),(),(),(v3,v4,()),(),()),((),v5,(),(v6,()),()))) (fun e0 e1 e2 e3=>b ((),((),(),(),(e0,e1,()),(),()),((),e2,(),(e3,()),()))) (fun r0 r1=>c ((),((),(),(),(r0,r1,()),(),()),())) v.1.1 v.1.2.1 v.1.2.2.1 v.2.1.2.2.2.1.1 v.2.1.2.2.2.1.2.1 v.2.2.2.1 v.2.2.2.2.2.1.1
theorem ao2:dG ajs 60 adt XI:=kW (Ye) (h2:=by intros;simp only[Ye,GV,bV,bW,bu,bQ,bY])
theorem auy:dD ajs 60 agn:=nJ [adt] (aD (fM (ao2)) aN)
theorem aup:iW BH=[]:=by kernel_rfl
theorem avS:je BH=[(cA (cA (cB (cA (cB (BH))))),cB (cA (cB (cA (cB (BH))))))]:=by kernel_rfl
theorem auz:dD ajs 61 BH:=lU BH (by rw[avS];exact(aD (fun _=>(show pz 61 3=some (cA (cA (cB (cA (cB (BH))))),cB (cA (cB (cA (cB (BH)))))) by kernel_rfl)) aN)) (by rw[aup];exact aN)
theorem arK:eu ajs:=eB aN [60,61] (aD ⟨f60,agn,by kernel_rfl,by kernel_rfl,auy⟩ (aD ⟨f61,BH,by kernel_rfl,by kernel_rfl,auz⟩ aN))
theorem axH:dH prog 34 aCU:=sA arK
def ay6 (x0:bM):Option (wE×Bool×Unit):=bz (aop x0) fun y0=>bif(bJ (bC y0.1) 0)then some ((0,(0,(0,(false,())))),(false,()))else bif(fB y0.1 (dR .i64 (bC y0.1) 1))then bif(fB y0.1 (dR .i64 (bC y0.1) 1))then bif(nH Qi y0.1 y0.1)then bif(nH Qi y0.1 y0.1)then bif(bJ (bC y0.1) (bC y0.1))then bif(bJ (dR .i64 (bC y0.1) 1) (dR .i64 (bC y0.1) 1))then bif(fB y0.1 (dR .i64 (bC y0.1) 1))then bif((bJ (dQ y0.1 (0,(0,(0,(false,())))) (dR .i64 (bC y0.1) 1)).1 (dQ y0.1 (0,(0,(0,(false,())))) (dR .i64 (bC y0.1) 1)).1)&&((bJ (dQ y0.1 (0,(0,(0,(false,())))) (dR .i64 (bC y0.1) 1)).2.1 (dQ y0.1 (0,(0,(0,(false,())))) (dR .i64 (bC y0.1) 1)).2.1)&&((bJ (dQ y0.1 (0,(0,(0,(false,())))) (dR .i64 (bC y0.1) 1)).2.2.1 (dQ y0.1 (0,(0,(0,(false,())))) (dR .i64 (bC y0.1) 1)).2.2.1)&&((jl (dQ y0.1 (0,(0,(0,(false,())))) (dR .i64 (bC y0.1) 1)).2.2.2.1 (dQ y0.1 (0,(0,(0,(false,())))) (dR .i64 (bC y0.1) 1)).2.2.2.1)&&true))))then bif(jl (dQ y0.1 (0,(0,(0,(false,())))) (dR .i64 (bC y0.1) 1)).2.2.2.1 (dQ y0.1 (0,(0,(0,(false,())))) (dR .i64 (bC y0.1) 1)).2.2.2.1)then bif(jl (dQ y0.1 (0,(0,(0,(false,())))) (dR .i64 (bC y0.1) 1)).2.2.2.1 (dQ y0.1 (0,(0,(0,(false,())))) (dR .i64 (bC y0.1) 1)).2.2.2.1)then some (((dQ y0.1 (0,(0,(0,(false,())))) (dR .i64 (bC y0.1) 1)).1,((dQ y0.1 (0,(0,(0,(false,())))) (dR .i64 (bC y0.1) 1)).2.1,((dQ y0.1 (0,(0,(0,(false,())))) (dR .i64 (bC y0.1) 1)).2.2.1,((dQ y0.1 (0,(0,(0,(false,())))) (dR .i64 (bC y0.1) 1)).2.2.2.1,())))),((dQ y0.1 (0,(0,(0,(false,())))) (dR .i64 (bC y0.1) 1)).2.2.2.1,()))else none else none else none else none else none else none else none else none else none else none
def aCT:Sum:=⟨[.str],[(.pair cO tyM,false),(.bool,false)],fun x=>ay6 x.1⟩
theorem axB:dH prog 25 aCT:=qA f25 [] (sE VC aN)
end
section
open Bool renaming and_eq_true → af
open Nat renaming le_refl → ae, eq_of_beq_eq_true → aj, le_trans → aG, le_mul_of_pos_right → bn
open Tryz
open Go.RowKit Go.Shelf Go.Lib
def ZT:Go.Shelf.Ren:=⟨fun|171=>26|243=>53|246=>83|283=>104|284=>105|285=>106|286=>107|129=>132|317=>131|318=>133|319=>134|320=>135|337=>168|338=>169|n=>n,fun|3=>3|9=>9|2=>2|4=>4|171=>142|0=>0|53=>143|37=>67|5=>5|173=>146|212=>167|51=>168|20=>20|213=>169|46=>152|232=>201|233=>202|n=>n,fun|17=>0|18=>1|19=>2|n=>n⟩
theorem auq:Go.Proofs.LaysM.n171 prog ZT:={
 mixed:=by kernel_rfl
 f129:=func132.trans (congrArg some (by kernel_rfl))
 f171:=func26.trans (congrArg some (by kernel_rfl))
 f243:=func53.trans (congrArg some (by kernel_rfl))
 f246:=func83.trans (congrArg some (by kernel_rfl))
 f283:=func104.trans (congrArg some (by kernel_rfl))
 f284:=func105.trans (congrArg some (by kernel_rfl))
 f285:=func106.trans (congrArg some (by kernel_rfl))
 f286:=func107.trans (congrArg some (by kernel_rfl))
 f317:=func131.trans (congrArg some (by kernel_rfl))
 f318:=func133.trans (congrArg some (by kernel_rfl))
 f319:=func134.trans (congrArg some (by kernel_rfl))
 f320:=func135.trans (congrArg some (by kernel_rfl))
 f337:=func168.trans (congrArg some (by kernel_rfl))
 f338:=func169.trans (congrArg some (by kernel_rfl))
 t0:=underlying0
 a0:=isAgg0
 z0:=sizeOf0
 v0:=zeroValue0
 t2:=underlying2
 a2:=isAgg2
 z2:=sizeOf2
 v2:=zeroValue2
 t3:=underlying3
 a3:=isAgg3
 z3:=sizeOf3
 v3:=zeroValue3
 t4:=underlying4
 a4:=isAgg4
 z4:=sizeOf4
 v4:=zeroValue4
 t5:=underlying5
 a5:=isAgg5
 z5:=sizeOf5
 v5:=zeroValue5
 t9:=underlying9
 a9:=isAgg9
 z9:=sizeOf9
 v9:=zeroValue9
 t20:=underlying20
 a20:=isAgg20
 z20:=sizeOf20
 v20:=zeroValue20
 t37:=underlying67
 a37:=isAgg67
 z37:=sizeOf67
 v37:=zeroValue67
 t46:=underlying152
 a46:=isAgg152
 z46:=sizeOf152
 v46:=zeroValue152
 t51:=underlying168
 a51:=isAgg168
 z51:=sizeOf168
 v51:=zeroValue168
 t53:=underlying143
 a53:=isAgg143
 z53:=sizeOf143
 v53:=zeroValue143
 t171:=underlying142
 a171:=isAgg142
 z171:=sizeOf142
 v171:=zeroValue142
 t173:=underlying146
 a173:=isAgg146
 z173:=sizeOf146
 v173:=zeroValue146
 t212:=underlying167
 a212:=isAgg167
 z212:=sizeOf167
 v212:=zeroValue167
 t213:=underlying169
 a213:=isAgg169
 z213:=sizeOf169
 t232:=underlying201
 a232:=isAgg201
 z232:=sizeOf201
 v232:=zeroValue201
 t233:=underlying202
 a233:=isAgg202
 z233:=sizeOf202
 v233:=zeroValue202
 g17:=by kernel_rfl
 g18:=by kernel_rfl
 g19:=by kernel_rfl
 i0:=by kernel_rfl
 i2:=by kernel_rfl
 i3:=by kernel_rfl
 i4:=by kernel_rfl
 i5:=by kernel_rfl
 i9:=by kernel_rfl
 i20:=by kernel_rfl
 i37:=by kernel_rfl
 i46:=by kernel_rfl
 i51:=by kernel_rfl
 i53:=by kernel_rfl
 i171:=by kernel_rfl
 i173:=by kernel_rfl
 i212:=by kernel_rfl
 i232:=by kernel_rfl
 i233:=by kernel_rfl
 m17:=by kernel_rfl
 m18:=by kernel_rfl
 m19:=by kernel_rfl}
def Ud:Go.Shelf.Ren:=⟨fun|155=>119|154=>155|138=>189|165=>190|143=>191|166=>28|197=>192|169=>30|195=>228|218=>229|240=>55|241=>230|219=>231|260=>232|276=>84|277=>258|217=>181|225=>259|224=>260|267=>261|266=>220|314=>271|n=>n,fun|9=>9|3=>3|4=>4|72=>69|0=>0|76=>75|105=>199|21=>21|5=>5|70=>66|20=>20|37=>67|75=>74|127=>108|164=>127|46=>152|119=>236|139=>239|138=>238|146=>243|51=>168|80=>78|n=>n,fun|1=>3|3=>4|4=>5|n=>n⟩
theorem Uc:Go.Proofs.Lays.n155 prog Ud:={
 mixed:=by kernel_rfl
 f138:=func189.trans (congrArg some (by kernel_rfl))
 f143:=func191.trans (congrArg some (by kernel_rfl))
 f154:=func155.trans (congrArg some (by kernel_rfl))
 f155:=func119.trans (congrArg some (by kernel_rfl))
 f165:=func190.trans (congrArg some (by kernel_rfl))
 f166:=func28.trans (congrArg some (by kernel_rfl))
 f169:=func30.trans (congrArg some (by kernel_rfl))
 f195:=func228.trans (congrArg some (by kernel_rfl))
 f197:=func192.trans (congrArg some (by kernel_rfl))
 f217:=func181.trans (congrArg some (by kernel_rfl))
 f218:=func229.trans (congrArg some (by kernel_rfl))
 f219:=func231.trans (congrArg some (by kernel_rfl))
 f224:=func260.trans (congrArg some (by kernel_rfl))
 f225:=func259.trans (congrArg some (by kernel_rfl))
 f240:=func55.trans (congrArg some (by kernel_rfl))
 f241:=func230.trans (congrArg some (by kernel_rfl))
 f260:=func232.trans (congrArg some (by kernel_rfl))
 f266:=func220.trans (congrArg some (by kernel_rfl))
 f267:=func261.trans (congrArg some (by kernel_rfl))
 f276:=func84.trans (congrArg some (by kernel_rfl))
 f277:=func258.trans (congrArg some (by kernel_rfl))
 f314:=func271.trans (congrArg some (by kernel_rfl))
 t0:=underlying0
 a0:=isAgg0
 z0:=sizeOf0
 v0:=zeroValue0
 t3:=underlying3
 a3:=isAgg3
 z3:=sizeOf3
 v3:=zeroValue3
 t4:=underlying4
 a4:=isAgg4
 z4:=sizeOf4
 v4:=zeroValue4
 t5:=underlying5
 a5:=isAgg5
 z5:=sizeOf5
 v5:=zeroValue5
 t9:=underlying9
 a9:=isAgg9
 z9:=sizeOf9
 v9:=zeroValue9
 t20:=underlying20
 a20:=isAgg20
 z20:=sizeOf20
 v20:=zeroValue20
 t21:=underlying21
 a21:=isAgg21
 z21:=sizeOf21
 v21:=zeroValue21
 t37:=underlying67
 a37:=isAgg67
 z37:=sizeOf67
 v37:=zeroValue67
 t46:=underlying152
 a46:=isAgg152
 z46:=sizeOf152
 v46:=zeroValue152
 t51:=underlying168
 a51:=isAgg168
 z51:=sizeOf168
 v51:=zeroValue168
 t70:=underlying66
 a70:=isAgg66
 z70:=sizeOf66
 v70:=zeroValue66
 t72:=underlying69
 a72:=isAgg69
 z72:=sizeOf69
 v72:=zeroValue69
 t75:=underlying74
 a75:=isAgg74
 z75:=sizeOf74
 v75:=zeroValue74
 t76:=underlying75
 a76:=isAgg75
 z76:=sizeOf75
 v76:=zeroValue75
 t105:=underlying199
 a105:=isAgg199
 z105:=sizeOf199
 v105:=zeroValue199
 t119:=underlying236
 a119:=isAgg236
 z119:=sizeOf236
 t127:=underlying108
 a127:=isAgg108
 z127:=sizeOf108
 v127:=zeroValue108
 t138:=underlying238
 a138:=isAgg238
 z138:=sizeOf238
 v138:=zeroValue238
 t139:=underlying239
 a139:=isAgg239
 z139:=sizeOf239
 v139:=zeroValue239
 t146:=underlying243
 a146:=isAgg243
 z146:=sizeOf243
 v146:=zeroValue243
 t164:=underlying127
 a164:=isAgg127
 z164:=sizeOf127
 v164:=zeroValue127
 g1:=by kernel_rfl
 g3:=by kernel_rfl
 g4:=by kernel_rfl}
def ags:Nat->Nat->List UInt8
 |0,_=>[]
 |f+1,u=>bif Nat.blt u 10 then [UInt8.ofNat (48+u)]else ags f (u/10)++[UInt8.ofNat (48+u %10)]
theorem Y4: ∀(f u:Nat),0<f->u<10^f->ags f u=Lib.decDigits u
 |0,u,h,_=>by omega
 |f+1,u,_,h=>by
  rw[ags,Lib.decDigits];by_cases hu:u<10
  ·rw[dif_pos hu,show Nat.blt u 10=true from by simpa [Nat.blt_eq] using hu,cond_true]
  ·rw[dif_neg hu,show Nat.blt u 10=false from Bool.eq_false_iff.2 (by simpa [Nat.blt_eq] using hu),cond_false];have hf:0<f:=by
    rcases Nat.eq_zero_or_pos f with e|e
    ·subst e;simp at h;omega
    ·exact e
   rw[Y4 f (u/10) hf (by rw[Nat.pow_succ]at h;omega)]
def OZ (n:Int):List UInt8:=bif decide (n<0)then 45::ags 20 n.natAbs else ags 20 n.toNat
theorem atD {n:Int} (h1: -9223372036854775808<=n) (h2:n<=9223372036854775807):OZ n=Lib.itoa n:=by
 have h20:(10:Nat)^20=100000000000000000000:=by decide
 unfold OZ Lib.itoa;rw[Y4 20 _ (by omega) (by rw[h20];omega),Y4 20 _ (by omega) (by rw[h20];omega)];by_cases h:n<0
 ·rw[if_pos h,decide_eq_true h];rfl
 ·rw[if_neg h,decide_eq_false h];rfl
def TS (n:Int):Option (List UInt8×Unit):=bif decide (-9223372036854775808<=n)&&decide (n<=9223372036854775807)then some (OZ n,())else none
def ac5:Sum:=⟨[.int .i64],[(.str,false)],fun x=>TS x.1⟩
theorem aD0: ∀(k:Nat) (w:World),(w.drewN k).heap=w.heap:=fun k w=>rfl
theorem VI:dH prog 26 ac5:=by
 intro w bar args' x y hphi hbar hdv hy;obtain⟨u,us1,e1,h1,h3⟩:=hdv;obtain rfl:us1=[]:=h3;have ha:args'= #[u]:=by
  apply Array.ext';simpa using e1
 subst ha;have e4:=h1.int_inv;subst e4;have hy:TS x.1=some y:=hy;unfold TS at hy;obtain⟨hb,hy⟩:=dw hy;simp only[af,decide_eq_true_eq]at hb;cases hy;rw[atD hb.1 hb.2];have hc:=Any.strconv_Itoa auq x.1 hb.1 hb.2 w hphi.1;refine .inl ⟨vz Pj func26 (show f26.body=some ((f26.body).getD .skip) by kernel_rfl) _ _,hc.mono fun e w' ⟨he,k,os,hw⟩=> ?_⟩;have hbel:Below w.heap.size w w':=by
  subst hw;refine⟨rfl,rfl,rfl, ?_,fun b hb=> ?_⟩
  ·show w.heap.size<=(w.heap++os).size;simp
  ·show(w.heap++os)[b]? =w.heap[b]?;exact Array.getElem?_append_left hb
 refine⟨(lw w bar).at_ w',[.string ⟨(Lib.itoa x.1).toArray⟩],he,rfl,(RY hphi hbar).ext hbel,rfl,rfl,rfl, ?_⟩;simp only[ac5,oL,bD,bP,and_true];exact VD.str_mk
theorem ay2:Builder.Extra prog Ud where
 sizeBuilder:=by kernel_rfl
 liesBuilder:=by kernel_rfl
 t5:=Uc.t5
 a5:=Uc.a5
 z5:=Uc.z5
 v5:=Uc.v5
 infoByte:=by kernel_rfl
 cellsByte:=by kernel_rfl
 sizeByte:=by kernel_rfl
 neB5:=by decide
def X9 (s old new:List UInt8):Option (List UInt8×Unit):=bif decide (s.length<4294967281)&&decide (1<=old.length)&&decide (s.length+s.length*new.length<=140737488355328)then some (Lib.replaceAll s old new,())else none
def ayg:Sum:=⟨[.str,.str,.str],[(.str,false)],fun x=>X9 x.1 x.2.1 x.2.2.1⟩
theorem afW:dH prog 119 ayg:=by
 intro w bar args' x y hphi hbar hdv hy;obtain⟨u,us1,e1,h1,u2,us2,e2,h2,u3,us3,e3,h3,h4⟩:=hdv;obtain rfl:us3=[]:=h4;subst e3 e2;have ha:args'= #[u,u2,u3]:=by
  apply Array.ext';simpa using e1
 subst ha;have e4:=h1.str_inv;have e5:=h2.str_inv;have e6:=h3.str_inv;subst e4 e5 e6;have hy:X9 x.1 x.2.1 x.2.2.1=some y:=hy;unfold X9 at hy;obtain⟨hb,hy⟩:=dw hy;simp only[af,decide_eq_true_eq]at hb;cases hy;obtain⟨m,hm⟩:=hphi.2;have hsz: ∀l:List UInt8,(⟨l.toArray⟩:ByteArray).size=l.length:=fun l=>by simp[ByteArray.size]
 have hcb:Lib.countB ⟨x.1.toArray⟩ ⟨x.2.1.toArray⟩<=x.1.length:=by
  have:=Lib.countB_mul_le (⟨x.2.1.toArray⟩:ByteArray) (by rw[hsz];exact hb.1.2) (⟨x.1.toArray⟩:ByteArray).size ⟨x.1.toArray⟩ (ae _);rw[hsz,hsz]at this;exact aG (bn _ (by omega)) this
 have hc:=Any.strings_ReplaceAll Uc ay2 ⟨x.1.toArray⟩ ⟨x.2.1.toArray⟩ ⟨x.2.2.1.toArray⟩ m w (by rw[hsz];exact hb.1.1) hm (by rw[hsz];exact hb.1.2)
  (by rw[hsz,hsz];have:=Nat.mul_le_mul_right x.2.2.1.length hcb;omega)
 refine .inl ⟨vz Pj func119 (show f119.body=some ((f119.body).getD .skip) by kernel_rfl) _ _,hc.mono fun e w' ⟨he,hbel⟩=> ?_⟩;refine⟨(lw w bar).at_ w',[.string ⟨(Lib.replaceAll x.1 x.2.1 x.2.2.1).toArray⟩],he,rfl,(RY hphi hbar).ext hbel,rfl,rfl,rfl, ?_⟩;simp only[ayg,oL,bD,bP,and_true];exact VD.str_mk
noncomputable def sg2 (g:FuncId):Option Sum:=bif Nat.beq g 26 then some ac5 else bif Nat.beq g 119 then some ayg else sg1 g
theorem aGJ: ∀g s,sg2 g=some s->dH prog g s:=fun g s h=>by
 unfold sg2 at h;rw[cond_eq_ite]at h;split at h
 ·rename_i hg
  obtain rfl:g=26:=aj hg;cases h;exact VI
 rw[cond_eq_ite]at h;split at h
 ·rename_i hg
  obtain rfl:g=119:=aj hg;cases h;exact afW
 exact awE g s h
end
section
open Tryz
open Go.RowKit
def yu (x0:Int):Option oP:=bz (Hu x0) fun y0=>bif(bJ y0.1 5)then some (true,())else bif(bJ y0.1 6)then some (true,())else some ((leI 128 x0),())
def ajy (x0:Int):Option oP:=bif(bJ x0 37)then bif(bJ x0 37)then some (true,())else yu x0 else bif(bJ x0 43)then bif(bJ x0 43)then some (true,())else yu x0 else bif(bJ x0 44)then bif(bJ x0 44)then some (true,())else yu x0 else bif(bJ x0 45)then bif(bJ x0 45)then some (true,())else yu x0 else bif(bJ x0 46)then bif(bJ x0 46)then some (true,())else yu x0 else bif(bJ x0 47)then bif(bJ x0 47)then some (true,())else yu x0 else bif(bJ x0 58)then bif(bJ x0 58)then some (true,())else yu x0 else bif(bJ x0 64)then some (true,())else yu x0
def awW:Sum:=⟨[.int .u8],Ou,fun x=>ajy x.1⟩
theorem api:dH prog 117 awW:=qA f117 [] (sE sS aN)
noncomputable def aqC:Code:=(f153.body).getD .skip
noncomputable def yh:Code:=cB (cA (cB (cA (cB (aqC)))))
def yE:dW:=⟨[4,900018],[],[],[],[2],[]⟩
def EK:SP:=⟨us [.u,.u,.u,.u,.v .bool] 16,[]⟩
def rq:SP:=⟨us [] 21,[]⟩
def ry:SP:=⟨us [.u,.u,.v .bool] 18,[]⟩
def Dt {γ:Type} (kE:Option γ) (kR:Bool->Option γ) (v0:Bool):Option γ:=bif v0 then kR true else kE
def gG (v0:Bool):Option (rq.den⊕ry.den):=Dt (some (.inl ((),()))) (fun r0=>some (.inr ((r0,()),()))) v0
noncomputable def KH:di:=fD yE EK rq ry (.exit 999999) (fun v=>gG v.1.1) 6
def kP (y0:rq.den⊕ry.den):Option oP:=dE y0 (fun a1=>some (false,())) (fun b1=>some (b1.1.1,()))
def ajI (x0:bM):Option oP:=bif(fG x0 [33])then bz (gG (fG x0 [33])) fun y0=>kP y0 else bif(fG x0 [123])then bz (gG (fG x0 [123])) fun y0=>kP y0 else bif(fG x0 [125])then bz (gG (fG x0 [125])) fun y0=>kP y0 else bif(fG x0 [99,97,115,101])then bz (gG (fG x0 [99,97,115,101])) fun y0=>kP y0 else bif(fG x0 [100,111])then bz (gG (fG x0 [100,111])) fun y0=>kP y0 else bif(fG x0 [100,111,110,101])then bz (gG (fG x0 [100,111,110,101])) fun y0=>kP y0 else bif(fG x0 [101,108,105,102])then bz (gG (fG x0 [101,108,105,102])) fun y0=>kP y0 else bif(fG x0 [101,108,115,101])then bz (gG (fG x0 [101,108,115,101])) fun y0=>kP y0 else bif(fG x0 [101,115,97,99])then bz (gG (fG x0 [101,115,97,99])) fun y0=>kP y0 else bif(fG x0 [102,105])then bz (gG (fG x0 [102,105])) fun y0=>kP y0 else bif(fG x0 [102,111,114])then bz (gG (fG x0 [102,111,114])) fun y0=>kP y0 else bif(fG x0 [105,102])then bz (gG (fG x0 [105,102])) fun y0=>kP y0 else bif(fG x0 [105,110])then bz (gG (fG x0 [105,110])) fun y0=>kP y0 else bif(fG x0 [116,104,101,110])then bz (gG (fG x0 [116,104,101,110])) fun y0=>kP y0 else bif(fG x0 [117,110,116,105,108])then bz (gG (fG x0 [117,110,116,105,108])) fun y0=>kP y0 else bz (gG (fG x0 [119,104,105,108,101])) fun y0=>kP y0
def aG3:Sum:=⟨[.str],Ou,fun x=>ajI x.1⟩
noncomputable def MH:Env:=iM prog tt 153 [] [(800018,yE)] [(800018,KH)]
theorem Vt {R:Type} (d:Nat) (K:Ex->St->Option R) (v0:Bool):
  iter (some yE) (BM (xU MH (d+6) 153 yh)) 1 (jO EK ((v0,()),())) K=
   Dt (K (.exit 999999) (jO rq ((),()))) (fun r0=>K .ret (jO ry ((r0,()),()))) v0:=by kernel_rfl
theorem ZH {R:Type} (d:Nat) (K:Ex->St->Option R) (v0:Bool):
  iter (some yE) (BM (xU MH (d+6) 153 yh)) 1 (jO EK ((v0,()),())) K=bz (gG v0) fun o=>dE o (fun a=>K (.exit 999999) (jO rq a)) fun b=>K .ret (jO ry b):=by
  rw[Vt];simp only[gG,Dt,bV,bW,bu,bQ,bY]
  try simp only[dE]
theorem aag:xZ MH 153 yh KH:=D6 (by kernel_rfl) fun R d K v o h=>⟨1,(ZH d K (v.1.1)).trans (congrArg (fun o=>bz o _) h)⟩
theorem aED:iW aqC=[]:=by kernel_rfl
theorem aDU:Gf MH 153 aqC=[yh]:=by kernel_rfl
theorem aEW:dD MH 153 aqC:=yG aqC (fun x _ hx=>absurd (show false=true from hx) (by decide)) (by rw[aED];exact aN) (BZ (by rw[aDU];exact(aD (fC (by kernel_rfl) (aag)) aN)))
theorem anL:eu MH:=eA f153 aN (aEW)
theorem apz:dH prog 153 aG3:=sA anL
def ajz (x0:bM):Option oP:=bz (ajI x0) fun y0=>bif y0.1 then some (true,())else bif(!(fG x0 []))then bz (Aq x0 0) fun y1=>some ((bJ y1.1 (bC x0)),())else some (false,())
def awX:Sum:=⟨[.str],Ou,fun x=>ajz x.1⟩
theorem apj:dH prog 118 awX:=qA f118 [] (sE apz (sE Oi aN))
noncomputable def b91:Code:=(f91.body).getD .skip
noncomputable def aBS:Code:=cA (cA (cB (cA (cB (cB (cB (b91)))))))
def aCo:dW:=⟨[0,3,8,9,100005],[],[3],[],[2],[]⟩
def aEw:dW:=⟨[0,3,8,9],[],[],[],[],[]⟩
def aky:dW:=⟨[0,3,4,8,9],[],[],[],[],[]⟩
def alN:SP:=⟨us [.v .str,.u,.u,.ptr 1000003 0,.u,.u,.u,.u,.v cO,.v cO] 27,[.box 1000003 69 [.slf 1000003,.slc 1500003],.arr 1500003 (.int .u8)]⟩
def ah5:SP:=⟨us [.u,.u,.u,.ptr 1000003 0] 33,[.box 1000003 69 [.slf 1000003,.slc 1500003],.arr 1500003 (.int .u8)]⟩
def aix:SP:=⟨us [.u,.u,.v .str] 34,[]⟩
def Ff {γ:Type} (v3:iC) (v0:bM) (v2:Int) (rec:bM->Int->Int->iC->Option γ) (v1:Int):Option γ:=bif(dO (bG v3 [92]) 1)then bif(fB v0 v2)then bif(dO (bG (bG v3 [92]) [(bT v0 v2)]) 1)then rec v0 v1 (bU .i64 v2 1) (bG (bG v3 [92]) [(bT v0 v2)])else none else none else none
def Bj {γ:Type} (v0:bM) (v2:Int) (v3:iC) (rec:bM->Int->Int->iC->Option γ) (v1:Int):Option γ:=bif(fB v0 v2)then bif(dO (bG v3 [(bT v0 v2)]) 1)then rec v0 v1 (bU .i64 v2 1) (bG v3 [(bT v0 v2)])else none else none
def Vm {γ:Type} (rec:bM->Int->Int->iC->Option γ) (kE:iC->Option γ) (kR:bM->Option γ) (v0:bM) (v1 v2:Int) (v3:iC):Option γ:=bif(gU v2 v1)then bif(fB v0 v2)then bif(bJ (bT v0 v2) 10)then bif(dO (bG v3 (dh [39,10,39])) 1)then rec v0 v1 (bU .i64 v2 1) (bG v3 (dh [39,10,39]))else none else bif(fB v0 v2)then bz (ajy (bT v0 v2)) fun y0=>bif(!y0.1)then bif(!y0.1)then Ff v3 v0 v2 rec v1 else Bj v0 v2 v3 rec v1 else bif(bJ v2 0)then bz (ajz v0) fun y1=>bif y1.1 then Ff v3 v0 v2 rec v1 else Bj v0 v2 v3 rec v1 else Bj v0 v2 v3 rec v1 else none else none else kE v3
def CG:Nat->bM->Int->Int->iC->Option (ah5.den⊕aix.den)
 |0,_,_,_,_=>none
 |n+1,v0,v1,v2,v3=>Vm (CG n) (fun e0=>some (.inl ((),((),e0,())))) (fun r0=>some (.inr ((r0,()),()))) v0 v1 v2 v3
def aFG (n:Nat) (v:alN.den):=CG n v.1.1 v.1.2.1 v.1.2.2.1 v.2.2.1
noncomputable def avb:di:=fD aCo alN ah5 aix (.exit 0) (aFG bH) 6
def azj (x0:bM):Option Qh:=bif(fG x0 [])then some ([39,39],())else bz (CG bH x0 (bC x0) 0 []) fun y0=>dE y0 (fun a1=>bif(bJ (bC a1.2.2.1) (bC a1.2.2.1))then some ((ofBytes a1.2.2.1),())else none) (fun b1=>some (b1.1.1,()))
def aJi:Sum:=⟨[.str],V7,fun x=>azj x.1⟩
noncomputable def asq:Env:=gy prog tt [(117,awW),(118,awX)] [(91,5,aCo),(91,600008,aEw),(91,600011,aky),(91,600012,aky),(91,600014,F9),(28,600001,pY),(29,600001,pY)] [(91,5,avb)] []
def awt {γ:Type} (a:alN.den->Option γ) (b:ah5.den->Option γ) (c:aix.den->Option γ) (v:alN.den):Option γ:=Vm (fun v0 v1 v2 v3=>a ((v0,v1,v2,()),((),v3,()))) (fun e0=>b ((),((),e0,()))) (fun r0=>c ((r0,()),())) v.1.1 v.1.2.1 v.1.2.2.1 v.2.2.1
theorem aGm:dG asq 91 aBS avb:=uQ (awt) (h2:=by intros;simp only[awt,Vm,bV,bW,bu,bQ,bY,Ff,Bj])
theorem aIO:dD asq 91 b91:=nJ [aBS] (aD (fM (aGm)) aN)
theorem asr:eu asq:=eB (aD api (aD apj aN)) [91] (aD ⟨f91,b91,by kernel_rfl,by kernel_rfl,aIO⟩ aN)
theorem ax9:dH prog 91 aJi:=sA asr
def azk (x0:bM):Option Qh:=bz (X9 x0 [39] [39,92,39,39]) fun y0=>bif(eP [39] y0.1)then some ((bG [39] y0.1),())else none
def aJj:Sum:=⟨[.str],V7,fun x=>azk x.1⟩
theorem aya:dH prog 92 aJj:=qA f92 [] (sE afW aN)
noncomputable def b93:Code:=(f93.body).getD .skip
noncomputable def aBT:Code:=cA (cA (cB (cA (cB (cB (cB (b93)))))))
def aCp:dW:=⟨[0,3,7,8,100004],[],[3],[],[2],[]⟩
def akz:dW:=⟨[0,3,4,7,8],[],[],[],[],[]⟩
def alO:SP:=⟨us [.v .str,.u,.u,.ptr 1000003 0,.u,.u,.u,.v cO,.v cO] 17,[.box 1000003 69 [.slf 1000003,.slc 1500003],.arr 1500003 (.int .u8)]⟩
def ah6:SP:=⟨us [.u,.u,.u,.ptr 1000003 0] 22,[.box 1000003 69 [.slf 1000003,.slc 1500003],.arr 1500003 (.int .u8)]⟩
def aiy:SP:=⟨us [.u,.u,.v .str] 23,[]⟩
def Bl {γ:Type} (v3:iC) (v0:bM) (v2:Int) (rec:bM->Int->Int->iC->Option γ) (v1:Int):Option γ:=bif(dO (bG v3 [92]) 1)then bif(fB v0 v2)then bif(dO (bG (bG v3 [92]) [(bT v0 v2)]) 1)then rec v0 v1 (bU .i64 v2 1) (bG (bG v3 [92]) [(bT v0 v2)])else none else none else none
def Bo {γ:Type} (v0:bM) (v2:Int) (v3:iC) (rec:bM->Int->Int->iC->Option γ) (v1:Int):Option γ:=bif(fB v0 v2)then bif(dO (bG v3 [(bT v0 v2)]) 1)then rec v0 v1 (bU .i64 v2 1) (bG v3 [(bT v0 v2)])else none else none
def acS {γ:Type} (rec:bM->Int->Int->iC->Option γ) (kE:iC->Option γ) (kR:bM->Option γ) (v0:bM) (v1 v2:Int) (v3:iC):Option γ:=bif(gU v2 v1)then bif(fB v0 v2)then bif(bJ (bT v0 v2) 36)then bif(bJ (bT v0 v2) 36)then Bl v3 v0 v2 rec v1 else Bo v0 v2 v3 rec v1 else bif(bJ (bT v0 v2) 96)then bif(bJ (bT v0 v2) 96)then Bl v3 v0 v2 rec v1 else Bo v0 v2 v3 rec v1 else bif(bJ (bT v0 v2) 34)then bif(bJ (bT v0 v2) 34)then Bl v3 v0 v2 rec v1 else Bo v0 v2 v3 rec v1 else bif(bJ (bT v0 v2) 92)then Bl v3 v0 v2 rec v1 else Bo v0 v2 v3 rec v1 else none else kE v3
def IZ:Nat->bM->Int->Int->iC->Option (ah6.den⊕aiy.den)
 |0,_,_,_,_=>none
 |n+1,v0,v1,v2,v3=>acS (IZ n) (fun e0=>some (.inl ((),((),e0,())))) (fun r0=>some (.inr ((r0,()),()))) v0 v1 v2 v3
def aFH (n:Nat) (v:alO.den):=IZ n v.1.1 v.1.2.1 v.1.2.2.1 v.2.2.1
noncomputable def avc:di:=fD aCp alO ah6 aiy (.exit 0) (aFH bH) 6
def azl (x0:bM):Option Qh:=bif(dO (bG [] [34]) 1)then bz (IZ bH x0 (bC x0) 0 (bG [] [34])) fun y0=>dE y0 (fun a1=>bif(bJ (bC a1.2.2.1) (bC a1.2.2.1))then some ((ofBytes a1.2.2.1),())else none) (fun b1=>some (b1.1.1,()))else none
def aJk:Sum:=⟨[.str],V7,fun x=>azl x.1⟩
noncomputable def ass:Env:=gy prog tt [] [(93,4,aCp),(93,600002,akw),(93,600011,akz),(93,600012,akz),(93,600014,F9),(29,600001,pY)] [(93,4,avc)] []
def awu {γ:Type} (a:alO.den->Option γ) (b:ah6.den->Option γ) (c:aiy.den->Option γ) (v:alO.den):Option γ:=acS (fun v0 v1 v2 v3=>a ((v0,v1,v2,()),((),v3,()))) (fun e0=>b ((),((),e0,()))) (fun r0=>c ((r0,()),())) v.1.1 v.1.2.1 v.1.2.2.1 v.2.2.1
theorem aGn:dG ass 93 aBT avc:=uQ (awu) (h2:=by intros;simp only[awu,acS,bV,bW,bu,bQ,bY,Bl,Bo])
theorem aIP:dD ass 93 b93:=nJ [aBT] (aD (fM (aGn)) aN)
theorem ast:eu ass:=eB aN [93] (aD ⟨f93,b93,by kernel_rfl,by kernel_rfl,aIP⟩ aN)
theorem ayb:dH prog 93 aJk:=sA ast
def aze (x0:bM) (x1:Int) (x2:Bool):Option Qh:=bz (azj x0) fun y0=>bif(bJ x1 4)then bz (azk x0) fun y1=>bif x2 then bif(eP y1.1 [39])then some ((bG y1.1 [39]),())else none else some (y1.1,())else bif(bJ x1 5)then bz (azl x0) fun y1=>bif x2 then bif(eP y1.1 [34])then some ((bG y1.1 [34]),())else none else some (y1.1,())else bif x2 then bif(eP y0.1 [])then some ((bG y0.1 []),())else none else some (y0.1,())
def aC4:Sum:=⟨[.str,cO,.bool],V7,fun x=>aze x.1 x.2.1 x.2.2.1⟩
theorem axT:dH prog 64 aC4:=qA f64 [] (sE ax9 (sE aya (sE ayb aN)))
noncomputable def b41:Code:=(f41.body).getD .skip
noncomputable def aBy:Code:=cA (cA (cB (cA (cB (cB (cA (cB (b41))))))))
def aCb:dW:=⟨[0,3,7,8,9,100003],[],[3],[],[2],[]⟩
def alr:SP:=⟨us [.v .str,.u,.u,.v .str,.u,.u,.u,.slc 1000007,.v cO,.v cO] 18,[.arr 1000007 cO]⟩
def ahP:SP:=⟨us [.u,.u,.u,.v .str] 24,[]⟩
def aih:SP:=⟨us [.u,.u,.v .str] 25,[]⟩
def Vk {γ:Type} (rec:bM->bM->Int->Int->iC->Option γ) (kE kR:bM->Option γ) (v0 v1:bM) (v2 v3:Int) (v4:iC):Option γ:=bif(gU v3 v2)then bif(fB v4 v3)then bif(nD (dm v3) v4)then bz (aze v0 (dA v4 0 (dm v3)) true) fun y0=>bif(!(fG v1 []))then bif(leI (bC v1) (bC y0.1))then rec v0 v1 v2 (bU .i64 v3 1) v4 else rec v0 y0.1 v2 (bU .i64 v3 1) v4 else rec v0 y0.1 v2 (bU .i64 v3 1) v4 else none else none else kE v1
def uT:Nat->bM->bM->Int->Int->iC->Option (ahP.den⊕aih.den)
 |0,_,_,_,_,_=>none
 |n+1,v0,v1,v2,v3,v4=>Vk (uT n) (fun e0=>some (.inl ((e0,()),()))) (fun r0=>some (.inr ((r0,()),()))) v0 v1 v2 v3 v4
def aFm (n:Nat) (v:alr.den):=uT n v.1.1 v.1.2.1 v.1.2.2.1 v.1.2.2.2.1 v.2.1
noncomputable def auR:di:=fD aCb alr ahP aih (.exit 0) (aFm bH) 6
def aor (x0:bM):Option Qh:=bz (uT bH x0 [] (bC [0,4,5]) 0 [0,4,5]) fun y0=>dE y0 (fun a1=>some (a1.1.1,())) (fun b1=>some (b1.1.1,()))
def aCX:Sum:=⟨[.str],V7,fun x=>aor x.1⟩
noncomputable def arL:Env:=iM prog tt 41 [(64,aC4)] [(3,aCb)] [(3,auR)]
def av7 {γ:Type} (a:alr.den->Option γ) (b:ahP.den->Option γ) (c:aih.den->Option γ) (v:alr.den):Option γ:=Vk (fun v0 v1 v2 v3 v4=>a ((v0,v1,v2,v3,()),(v4,()))) (fun e0=>b ((e0,()),())) (fun r0=>c ((r0,()),())) v.1.1 v.1.2.1 v.1.2.2.1 v.1.2.2.2.1 v.2.1
theorem aF2:dG arL 41 aBy auR:=uQ (av7) (h2:=by intros;simp only[av7,Vk,bV,bW,bu,bQ,bY])
theorem aIv:dD arL 41 b41:=nJ [aBy] (aD (fM (aF2)) aN)
theorem arM:eu arL:=eA f41 (aD axT aN) (aIv)
theorem afO:dH prog 41 aCX:=sA arM
def ajJ (x0:Int):Option oP:=some ((!(bJ x0 x0)),())
def aG5:Sum:=⟨[cO],Ou,fun x=>ajJ x.1⟩
theorem apB:dH prog 156 aG5:=qA f156 [] aN
def ajA (x0 x1:Int):Option oP:=bz (ajJ x0) fun y0=>bif y0.1 then bz (ajJ x1) fun y1=>bif(!y1.1)then some (true,())else some ((gU x0 x1),())else some ((gU x0 x1),())
def awZ:Sum:=⟨[cO,cO],Ou,fun x=>ajA x.1 x.2.1⟩
theorem apk:dH prog 120 awZ:=qA f120 [] (sE apB aN)
def ajB (x0:Int):Option oP:=some ((!(bJ x0 x0)),())
def aw0:Sum:=⟨[cO],Ou,fun x=>ajB x.1⟩
theorem apl:dH prog 121 aw0:=qA f121 [] aN
noncomputable def b94:Code:=(f94.body).getD .skip
noncomputable def aBU:Code:=cA (cA (cA (cB (cB (cB (b94))))))
def aCq:dW:=⟨[0,1,6,7,8,100003],[],[0,1,6,7],[],[4,5],[]⟩
def alP:SP:=⟨us [.v (.list cO),.v cO,.u,.u,.u,.u,.v cO,.v cO,.v cO] 45,[]⟩
def ah7:SP:=⟨us [.v (.list cO),.v cO,.u,.u,.u,.u,.v cO,.v cO] 46,[]⟩
def aiz:SP:=⟨us [.u,.u,.u,.u,.v cO,.v .bool] 48,[]⟩
def acT {γ:Type} (rec:iC->Int->Int->Int->Int->Option γ) (kE:iC->Int->Int->Int->Option γ) (kR:Int->Bool->Option γ) (v0:iC) (v1 v2 v3 v4:Int):Option γ:=bif(gU v3 v4)then bif(leI 0 1)then bif(fB v0 (L8 .i64 (WN .u64 (L8 .u64 (bU .i64 v3 v4)) 1)))then bz (ajA (dQ v0 0 (L8 .i64 (WN .u64 (L8 .u64 (bU .i64 v3 v4)) 1))) v1) fun y0=>bif y0.1 then rec v0 v1 v2 (bU .i64 (L8 .i64 (WN .u64 (L8 .u64 (bU .i64 v3 v4)) 1)) 1) v4 else rec v0 v1 v2 v3 (L8 .i64 (WN .u64 (L8 .u64 (bU .i64 v3 v4)) 1))else none else none else kE v0 v1 v2 v3
def Np:Nat->iC->Int->Int->Int->Int->Option (ah7.den⊕aiz.den)
 |0,_,_,_,_,_=>none
 |n+1,v0,v1,v2,v3,v4=>acT (Np n) (fun e0 e1 e2 e3=>some (.inl ((e0,e1,e2,e3,()),()))) (fun r0 r1=>some (.inr ((r0,r1,()),()))) v0 v1 v2 v3 v4
def aFI (n:Nat) (v:alP.den):=Np n v.1.1 v.1.2.1 v.1.2.2.1 v.1.2.2.2.1 v.1.2.2.2.2.1
noncomputable def avd:di:=fD aCq alP ah7 aiz (.exit 0) (aFI bH) 6
def azm (x0:iC) (x1:Int):Option (Int×Bool×Unit):=bz (Np bH x0 x1 (bC x0) 0 (bC x0)) fun y0=>dE y0 (fun a1=>bif(gU a1.1.2.2.2.1 a1.1.2.2.1)then bif(fB a1.1.1 a1.1.2.2.2.1)then bif(bJ (dQ a1.1.1 0 a1.1.2.2.2.1) a1.1.2.1)then some (a1.1.2.2.2.1,(true,()))else bif(fB a1.1.1 a1.1.2.2.2.1)then bz (ajB (dQ a1.1.1 0 a1.1.2.2.2.1)) fun y2=>bif y2.1 then bz (ajB a1.1.2.1) fun y3=>some (a1.1.2.2.2.1,(y3.1,()))else some (a1.1.2.2.2.1,(false,()))else none else none else some (a1.1.2.2.2.1,(false,()))) (fun b1=>some (b1.1.1,(b1.1.2.1,())))
def aJl:Sum:=⟨[.list cO,cO],[(.int .i64,false),(.bool,false)],fun x=>azm x.1 x.2.1⟩
noncomputable def asu:Env:=iM prog tt 94 [(120,awZ),(121,aw0)] [(3,aCq)] [(3,avd)]
def awv {γ:Type} (a:alP.den->Option γ) (b:ah7.den->Option γ) (c:aiz.den->Option γ) (v:alP.den):Option γ:=acT (fun v0 v1 v2 v3 v4=>a ((v0,v1,v2,v3,v4,()),())) (fun e0 e1 e2 e3=>b ((e0,e1,e2,e3,()),())) (fun r0 r1=>c ((r0,r1,()),())) v.1.1 v.1.2.1 v.1.2.2.1 v.1.2.2.2.1 v.1.2.2.2.2.1
theorem aGo:dG asu 94 aBU avd:=uQ (awv) (h2:=by intros;simp only[awv,acT,bV,bW,bu,bQ,bY])
theorem aIQ:dD asu 94 b94:=nJ [aBU] (aD (fM (aGo)) aN)
theorem asv:eu asu:=eA f94 (aD apk (aD apl aN)) (aIQ)
theorem ayc:dH prog 94 aJl:=sA asv
def aEm (x0:Int) (x1:iC) (x2:Int):Option ((Int×iC×Unit)×DT):=bz (azm x1 x2) fun y0=>some ((x0,(x1,())),(y0.1,()))
def aJe:fP:=⟨88,[(.int .i64,false),(.list cO,true)],[cO],[cO],fun x y=>aEm x.1 x.2.1 y.1⟩
theorem axU:dM prog 65 aJe:=qB [] (sE ayc aN)
def aEn (x0:Int) (x1:iC) (x2:Int):Option ((Int×iC×Unit)×DT):=bif(bJ x2 0)then some ((x0,(x1,())),(0,()))else bif(fB x1 (dR .i64 x2 1))then bif(nD (dm (dR .i64 x2 1)) x1)then some ((x0,(x1,())),((bU .i64 (dA x1 0 (dm (dR .i64 x2 1))) 1),()))else none else none
def aJf:fP:=⟨88,[(.int .i64,false),(.list cO,true)],[cO],[cO],fun x y=>aEn x.1 x.2.1 y.1⟩
theorem axV:dM prog 66 aJf:=qB [] aN
def ad5 (x0:Int) (x1:iC) (x2:Int):Option ((Int×iC×Unit)×(Int×Int×Int×Unit)):=bif(gU x2 0)then some ((x0,(x1,())),(0,(0,(1,()))))else bif(gU x0 x2)then some ((x0,(x1,())),(0,(0,(1,()))))else bz (aEm x0 x1 x2) fun y0=>bz (aEn y0.1.1 y0.1.2.1 y0.2.1) fun y1=>some ((y1.1.1,(y1.1.2.1,())),(y0.2.1,((dR .i64 x2 y1.2.1),(0,()))))
def aCY:fP:=⟨88,[(.int .i64,false),(.list cO,true)],[cO],[cO,cO,cO],fun x y=>ad5 x.1 x.2.1 y.1⟩
theorem axK:dM prog 42 aCY:=qB [] aN (sF axU (sF axV aN))
def ate (x0:Int):Option Qh:=bif(gU x0 0)then some ([],())else bif(leI (bC [[],[112,114,111,103,114,97,109],[108,105,115,116],[97,110,100,45,111,114],[112,105,112,101],[115,105,109,112,108,101],[97,115,115,105,103,110],[119,111,114,100],[114,101,100,105,114,101,99,116],[98,114,97,99,101],[115,117,98,115,104,101,108,108],[105,102],[108,111,111,112],[102,111,114],[99,97,115,101],[105,116,101,109],[102,117,110,99,116,105,111,110],[101,114,114,111,114],[109,105,115,115,105,110,103]]) x0)then some ([],())else bif(fB [[],[112,114,111,103,114,97,109],[108,105,115,116],[97,110,100,45,111,114],[112,105,112,101],[115,105,109,112,108,101],[97,115,115,105,103,110],[119,111,114,100],[114,101,100,105,114,101,99,116],[98,114,97,99,101],[115,117,98,115,104,101,108,108],[105,102],[108,111,111,112],[102,111,114],[99,97,115,101],[105,116,101,109],[102,117,110,99,116,105,111,110],[101,114,114,111,114],[109,105,115,115,105,110,103]] x0)then bif(nD (dm x0) [[],[112,114,111,103,114,97,109],[108,105,115,116],[97,110,100,45,111,114],[112,105,112,101],[115,105,109,112,108,101],[97,115,115,105,103,110],[119,111,114,100],[114,101,100,105,114,101,99,116],[98,114,97,99,101],[115,117,98,115,104,101,108,108],[105,102],[108,111,111,112],[102,111,114],[99,97,115,101],[105,116,101,109],[102,117,110,99,116,105,111,110],[101,114,114,111,114],[109,105,115,115,105,110,103]])then some ((dA [[],[112,114,111,103,114,97,109],[108,105,115,116],[97,110,100,45,111,114],[112,105,112,101],[115,105,109,112,108,101],[97,115,115,105,103,110],[119,111,114,100],[114,101,100,105,114,101,99,116],[98,114,97,99,101],[115,117,98,115,104,101,108,108],[105,102],[108,111,111,112],[102,111,114],[99,97,115,101],[105,116,101,109],[102,117,110,99,116,105,111,110],[101,114,114,111,114],[109,105,115,115,105,110,103]] [] (dm x0)),())else none else none
def aJd:Sum:=⟨[cO],V7,fun x=>ate x.1⟩
theorem axS:dH prog 63 aJd:=qA f63 [] aN
def qP (x6:List fZ) (x7:Int):=dQ x6 (0,(0,(0,(0,())))) x7
def Ef (x5:List fU) (x6:List fZ) (x7:Int):=dQ x5 (0,([],(0,(0,())))) (qP x6 x7).2.1
def aza (x0:bM) (x1:List wE) (x2:Int) (x3:qJ) (x4:Bool) (x5:List fU) (x6:List fZ) (x7:Int):Option (taV×(Int×bM×Unit)):=bif(fB x6 x7)then bif(gU (qP x6 x7).2.1 (bC x5))then bif(fB x5 (qP x6 x7).2.1)then bif(bJ (qP x6 x7).1 18)then bif(fB x6 (qP x6 x7).2.2.2.1)then bz (ate (dQ x6 (0,(0,(0,(0,())))) (qP x6 x7).2.2.2.1).1) fun y0=>bif(eP [115,111,109,101,116,104,105,110,103,32,105,115,32,109,105,115,115,105,110,103,32,105,110,32] y0.1)then some ((x0,(x1,(x2,(x3,(x4,(x5,(x6,()))))))),((Ef x5 x6 x7).2.2.1,((bG [115,111,109,101,116,104,105,110,103,32,105,115,32,109,105,115,115,105,110,103,32,105,110,32] y0.1),())))else none else none else bif(fB x5 (qP x6 x7).2.1)then bif(bJ (Ef x5 x6 x7).1 2)then some ((x0,(x1,(x2,(x3,(x4,(x5,(x6,()))))))),((Ef x5 x6 x7).2.2.1,([117,110,101,120,112,101,99,116,101,100,32,110,101,119,108,105,110,101],())))else bif(fB x5 (qP x6 x7).2.1)then bz (aor (Ef x5 x6 x7).2.1) fun y0=>bif(eP [117,110,101,120,112,101,99,116,101,100,32] y0.1)then some ((x0,(x1,(x2,(x3,(x4,(x5,(x6,()))))))),((Ef x5 x6 x7).2.2.1,((bG [117,110,101,120,112,101,99,116,101,100,32] y0.1),())))else none else none else none else none else bif(bJ (qP x6 x7).1 18)then bif(fB x6 (qP x6 x7).2.2.2.1)then bz (ate (dQ x6 (0,(0,(0,(0,())))) (qP x6 x7).2.2.2.1).1) fun y0=>bif(eP [115,111,109,101,116,104,105,110,103,32,105,115,32,109,105,115,115,105,110,103,32,105,110,32] y0.1)then some ((x0,(x1,(x2,(x3,(x4,(x5,(x6,()))))))),((bC x0),((bG [115,111,109,101,116,104,105,110,103,32,105,115,32,109,105,115,115,105,110,103,32,105,110,32] y0.1),())))else none else none else bif(fB x5 (qP x6 x7).2.1)then bif(bJ (Ef x5 x6 x7).1 2)then some ((x0,(x1,(x2,(x3,(x4,(x5,(x6,()))))))),((bC x0),([117,110,101,120,112,101,99,116,101,100,32,110,101,119,108,105,110,101],())))else bif(fB x5 (qP x6 x7).2.1)then bz (aor (Ef x5 x6 x7).2.1) fun y0=>bif(eP [117,110,101,120,112,101,99,116,101,100,32] y0.1)then some ((x0,(x1,(x2,(x3,(x4,(x5,(x6,()))))))),((bC x0),((bG [117,110,101,120,112,101,99,116,101,100,32] y0.1),())))else none else none else none else none
def aCV:fP:=⟨45,tzF,[cO],[cO,.str],fun x y=>aza x.1 x.2.1 x.2.2.1 x.2.2.2.1 x.2.2.2.2.1 x.2.2.2.2.2.1 x.2.2.2.2.2.2.1 y.1⟩
theorem axI:dM prog 39 aCV:=qB [] (sE afO (sE axS aN))
def aoq (x0:bM) (x1:List wE) (x2:Int) (x3:qJ) (x4:Bool) (x5:List fU) (x6:List fZ):Option (taV×(qJ×Unit)):=bz (atb x0 x1 x2 x3 x4 x5 x6) fun y0=>bif y0.2.2.1 then bif(bJ y0.2.1.1 7)then some ((y0.1.1,(y0.1.2.1,(y0.1.2.2.1,(y0.1.2.2.2.1,(y0.1.2.2.2.2.1,(y0.1.2.2.2.2.2.1,(y0.1.2.2.2.2.2.2.1,()))))))),([],()))else some ((y0.1.1,(y0.1.2.1,(y0.1.2.2.1,(y0.1.2.2.2.1,(y0.1.2.2.2.2.1,(y0.1.2.2.2.2.2.1,(y0.1.2.2.2.2.2.2.1,()))))))),(y0.1.2.2.2.1,()))else some ((y0.1.1,(y0.1.2.1,(y0.1.2.2.1,(y0.1.2.2.2.1,(y0.1.2.2.2.2.1,(y0.1.2.2.2.2.2.1,(y0.1.2.2.2.2.2.2.1,()))))))),(y0.1.2.2.2.1,()))
def aCW:fP:=⟨45,tzF,[],[V6],fun x y=>aoq x.1 x.2.1 x.2.2.1 x.2.2.2.1 x.2.2.2.2.1 x.2.2.2.2.2.1 x.2.2.2.2.2.2.1⟩
theorem axJ:dM prog 40 aCW:=qB [] aN (sF afK aN)
noncomputable def b52:Code:=(f52.body).getD .skip
noncomputable def aBC:Code:=cA (cA (cB (cA (cB (cB (cB (b52)))))))
def aCe:dW:=⟨[0,1,6,7,8,100004],[],[6,7],[],[4,5],[]⟩
def alx:SP:=⟨us [.v .str,.v cO,.u,.u,.u,.u,.v cO,.v cO,.v cO] 15,[]⟩
def ahS:SP:=⟨us [.u,.u,.u,.u,.u,.u,.v cO,.v cO] 16,[]⟩
def aik:SP:=⟨us [.u,.u,.u,.u,.v cO,.v cO] 18,[]⟩
def acF {γ:Type} (rec:bM->Int->Int->Int->Int->Option γ) (kE kR:Int->Int->Option γ) (v0:bM) (v1 v2 v3 v4:Int):Option γ:=bif(gU v4 v1)then bif(fB v0 v4)then bif(bJ (bT v0 v4) 10)then rec v0 v1 (bU .i64 v2 1) 0 (bU .i64 v4 1)else rec v0 v1 v2 (bU .i64 v3 1) (bU .i64 v4 1)else none else kE v2 v3
def MZ:Nat->bM->Int->Int->Int->Int->Option (ahS.den⊕aik.den)
 |0,_,_,_,_,_=>none
 |n+1,v0,v1,v2,v3,v4=>acF (MZ n) (fun e0 e1=>some (.inl ((e0,e1,()),()))) (fun r0 r1=>some (.inr ((r0,r1,()),()))) v0 v1 v2 v3 v4
def aFq (n:Nat) (v:alx.den):=MZ n v.1.1 v.1.2.1 v.1.2.2.1 v.1.2.2.2.1 v.1.2.2.2.2.1
noncomputable def auV:di:=fD aCe alx ahS aik (.exit 0) (aFq bH) 6
def azc (x0:bM) (x1:Int):Option nZ:=bz (MZ bH x0 x1 0 0 0) fun y0=>dE y0 (fun a1=>some (a1.1.1,(a1.1.2.1,()))) (fun b1=>some (b1.1.1,(b1.1.2.1,())))
def aJb:Sum:=⟨[.str,cO],tzI,fun x=>azc x.1 x.2.1⟩
noncomputable def arT:Env:=iM prog tt 52 [] [(4,aCe)] [(4,auV)]
def awd {γ:Type} (a:alx.den->Option γ) (b:ahS.den->Option γ) (c:aik.den->Option γ) (v:alx.den):Option γ:=acF (fun v0 v1 v2 v3 v4=>a ((v0,v1,v2,v3,v4,()),())) (fun e0 e1=>b ((e0,e1,()),())) (fun r0 r1=>c ((r0,r1,()),())) v.1.1 v.1.2.1 v.1.2.2.1 v.1.2.2.2.1 v.1.2.2.2.2.1
theorem aF6:dG arT 52 aBC auV:=uQ (awd) (h2:=by intros;simp only[awd,acF,bV,bW,bu,bQ,bY])
theorem aIA:dD arT 52 b52:=nJ [aBC] (aD (fM (aF6)) aN)
theorem arU:eu arT:=eA f52 aN (aIA)
theorem axP:dH prog 52 aJb:=sA arU
def Ee (x0:bM) (x1:Int) (x2:bM):Option (BB×Unit):=bz (azc x0 x1) fun y0=>some (((bU .i64 y0.1 1),((bU .i64 y0.2.1 1),(x2,()))),())
def aCR:Sum:=⟨[.str,cO,.str],[(.pair cO (.pair cO (.pair .str .unit)),false)],fun x=>Ee x.1 x.2.1 x.2.2.1⟩
theorem axu:dH prog 23 aCR:=qA f23 [] (sE axP aN)
def ag0 (x0:Int):Option Qh:=bif(bJ x0 1)then some ([112,114,111,103,114,97,109],())else bif(bJ x0 2)then some ([108,105,115,116],())else bif(bJ x0 3)then some ([97,110,100,45,111,114],())else bif(bJ x0 4)then some ([112,105,112,101],())else bif(bJ x0 5)then some ([115,105,109,112,108,101],())else bif(bJ x0 8)then some ([114,101,100,105,114,101,99,116],())else bif(bJ x0 9)then some ([98,114,97,99,101],())else bif(bJ x0 10)then some ([115,117,98,115,104,101,108,108],())else bif(bJ x0 11)then some ([105,102],())else bif(bJ x0 12)then some ([108,111,111,112],())else bif(bJ x0 13)then some ([102,111,114],())else bif(bJ x0 14)then some ([99,97,115,101],())else bif(bJ x0 15)then some ([105,116,101,109],())else bif(bJ x0 16)then some ([102,117,110,99,116,105,111,110],())else some ([],())
def aCS:Sum:=⟨[cO],V7,fun x=>ag0 x.1⟩
theorem axy:dH prog 24 aCS:=qA f24 [] aN
noncomputable def b81:Code:=(f81.body).getD .skip
noncomputable def aBQ:Code:=cA (cA (cB (cA (cB (b81)))))
def alL:SP:=⟨us [.v .str,.v cO,.u,.u,.u,.v cO] 12,[]⟩
def ah3:SP:=⟨us [] 18,[]⟩
def aiv:SP:=⟨us [.u,.u,.u,.u,.v .bool] 13,[]⟩
def acQ {γ:Type} (rec:bM->Int->Int->Option γ) (kE:Option γ) (kR:Bool->Option γ) (v0:bM) (v1 v2:Int):Option γ:=bif(gU v2 (bC v0))then bif(fB v0 v2)then bz (MO (bT v0 v2)) fun y0=>bif(!(bJ y0.1 v1))then kR false else rec v0 v1 (bU .i64 v2 1)else none else kE
def Nl:Nat->bM->Int->Int->Option (ah3.den⊕aiv.den)
 |0,_,_,_=>none
 |n+1,v0,v1,v2=>acQ (Nl n) (some (.inl ((),()))) (fun r0=>some (.inr ((r0,()),()))) v0 v1 v2
def aFE (n:Nat) (v:alL.den):=Nl n v.1.1 v.1.2.1 v.1.2.2.1
noncomputable def au9:di:=fD akr alL ah3 aiv (.exit 0) (aFE bH) 6
def azh (x0:bM) (x1:Int):Option oP:=bz (Nl bH x0 x1 0) fun y0=>dE y0 (fun a1=>some (true,())) (fun b1=>some (b1.1.1,()))
def aDc:Sum:=⟨[.str,cO],Ou,fun x=>azh x.1 x.2.1⟩
noncomputable def asj:Env:=iM prog tt 81 [(71,afP)] [(2,akr)] [(2,au9)]
def awr {γ:Type} (a:alL.den->Option γ) (b:ah3.den->Option γ) (c:aiv.den->Option γ) (v:alL.den):Option γ:=acQ (fun v0 v1 v2=>a ((v0,v1,v2,()),())) (b ((),())) (fun r0=>c ((r0,()),())) v.1.1 v.1.2.1 v.1.2.2.1
theorem aGk:dG asj 81 aBQ au9:=uQ (awr) (h2:=by intros;simp only[awr,acQ,bV,bW,bu,bQ,bY])
theorem aIM:dD asj 81 b81:=nJ [aBQ] (aD (fM (aGk)) aN)
theorem asl:eu asj:=eA f81 (aD xI aN) (aIM)
theorem ax5:dH prog 81 aDc:=sA asl
def atj (x0:Int):Option oP:=bz (MO x0) fun y0=>bif(bJ y0.1 5)then some (true,())else bz (MO x0) fun y1=>bif(bJ y1.1 6)then some (true,())else bif(gU 127 x0)then some (true,())else bz (Eg x0 [37,43,44,45,46,47,58,64]) fun y2=>some (y2.1,())
def aDd:Sum:=⟨[.int .u8],Ou,fun x=>atj x.1⟩
theorem ax6:dH prog 82 aDd:=qA f82 [] (sE xI (sE Bz aN))
noncomputable def b51:Code:=(f51.body).getD .skip
noncomputable def aBB:Code:=cA (cA (cB (cA (cB (cA (cB (cA (cB (cB (b51))))))))))
noncomputable def arh:Code:=cA (cA (cB (cA (cB (cA (cB (cA (cB (cB (cB (b51)))))))))))
noncomputable def ari:Code:=cA (cA (cB (cA (cB (cB (cB (cB (cB (cB (b51))))))))))
def aCd:dW:=⟨[0,2,7,8,100005],[],[2,7],[],[6],[]⟩
def aug:dW:=⟨[0,2,7,9,100016],[],[2,7],[],[6],[]⟩
def auh:dW:=⟨[0,7,10,100031],[],[7],[],[6],[]⟩
def alv:SP:=⟨us [.v .str,.u,.v .bool,.u,.u,.u,.u,.v .str,.v cO] 101,[]⟩
def ahR:SP:=⟨us [.u,.u,.v .bool,.u,.u,.u,.u,.v .str] 102,[]⟩
def aij:SP:=⟨us [.u,.u,.u,.u,.u,.u,.v .str] 103,[]⟩
def acE {γ:Type} (rec:bM->Bool->bM->Int->Option γ) (kE:Bool->bM->Option γ) (kR:bM->Option γ) (v0:bM) (v1:Bool) (v2:bM) (v3:Int):Option γ:=bif(gU v3 (bC v0))then bif(fB v0 v3)then bif(bJ (bT v0 v3) 39)then bif(eP v2 [39,92,39,39])then rec v0 v1 (bG v2 [39,92,39,39]) (bU .i64 v3 1)else none else bif(eU (bC v0) v3 (bU .i64 v3 1))then bif(eP v2 (sub v0 v3 (bU .i64 v3 1)))then rec v0 v1 (bG v2 (sub v0 v3 (bU .i64 v3 1))) (bU .i64 v3 1)else none else none else none else kE v1 v2
def IY:Nat->bM->Bool->bM->Int->Option (ahR.den⊕aij.den)
 |0,_,_,_,_=>none
 |n+1,v0,v1,v2,v3=>acE (IY n) (fun e0 e1=>some (.inl ((e0,e1,()),()))) (fun r0=>some (.inr ((r0,()),()))) v0 v1 v2 v3
def aFp (n:Nat) (v:alv.den):=IY n v.1.1 v.1.2.1 v.1.2.2.1 v.1.2.2.2.1
noncomputable def auU:di:=fD aCd alv ahR aij (.exit 0) (aFp bH) 6
def aaR:SP:=⟨us [.v .str,.u,.v .bool,.u,.u,.u,.u,.v .str,.u,.v cO] 100,[]⟩
def abr:SP:=⟨us [.u,.u,.v .bool,.u,.u,.u,.u,.v .str] 102,[]⟩
def ab6:SP:=⟨us [.u,.u,.u,.u,.u,.u,.v .str] 103,[]⟩
def Rn {γ:Type} (rec:bM->Bool->bM->Int->Option γ) (kE:Bool->bM->Option γ) (kR:bM->Option γ) (v0:bM) (v1:Bool) (v2:bM) (v3:Int):Option γ:=bif(gU v3 (bC v0))then bif(fB v0 v3)then bz (Eg (bT v0 v3) [36,96,34,92]) fun y0=>bif y0.1 then bif(eP v2 [92])then bif(eU (bC v0) v3 (bU .i64 v3 1))then bif(eP (bG v2 [92]) (sub v0 v3 (bU .i64 v3 1)))then rec v0 v1 (bG (bG v2 [92]) (sub v0 v3 (bU .i64 v3 1))) (bU .i64 v3 1)else none else none else none else bif(eU (bC v0) v3 (bU .i64 v3 1))then bif(eP v2 (sub v0 v3 (bU .i64 v3 1)))then rec v0 v1 (bG v2 (sub v0 v3 (bU .i64 v3 1))) (bU .i64 v3 1)else none else none else none else kE v1 v2
def Cm:Nat->bM->Bool->bM->Int->Option (abr.den⊕ab6.den)
 |0,_,_,_,_=>none
 |n+1,v0,v1,v2,v3=>Rn (Cm n) (fun e0 e1=>some (.inl ((e0,e1,()),()))) (fun r0=>some (.inr ((r0,()),()))) v0 v1 v2 v3
def aAl (n:Nat) (v:aaR.den):=Cm n v.1.1 v.1.2.1 v.1.2.2.1 v.1.2.2.2.1
noncomputable def ak9:di:=fD aug aaR abr ab6 (.exit 2) (aAl bH) 12
def aaS:SP:=⟨us [.v .str,.u,.u,.u,.u,.u,.u,.v .str,.u,.u,.v cO] 99,[]⟩
def abt:SP:=⟨us [.u,.u,.u,.u,.u,.u,.u,.v .str] 102,[]⟩
def ab7:SP:=⟨us [.u,.u,.u,.u,.u,.u,.v .str] 103,[]⟩
def Ro {γ:Type} (rec:bM->bM->Int->Option γ) (kE kR:bM->Option γ) (v0 v1:bM) (v2:Int):Option γ:=bif(gU v2 (bC v0))then bif(fB v0 v2)then bif(bJ (bT v0 v2) 10)then bif(eP v1 [39,10,39])then rec v0 (bG v1 [39,10,39]) (bU .i64 v2 1)else none else bif(fB v0 v2)then bz (atj (bT v0 v2)) fun y0=>bif y0.1 then bif(eU (bC v0) v2 (bU .i64 v2 1))then bif(eP v1 (sub v0 v2 (bU .i64 v2 1)))then rec v0 (bG v1 (sub v0 v2 (bU .i64 v2 1))) (bU .i64 v2 1)else none else none else bif(eP v1 [92])then bif(eU (bC v0) v2 (bU .i64 v2 1))then bif(eP (bG v1 [92]) (sub v0 v2 (bU .i64 v2 1)))then rec v0 (bG (bG v1 [92]) (sub v0 v2 (bU .i64 v2 1))) (bU .i64 v2 1)else none else none else none else none else none else kE v1
def qW:Nat->bM->bM->Int->Option (abt.den⊕ab7.den)
 |0,_,_,_=>none
 |n+1,v0,v1,v2=>Ro (qW n) (fun e0=>some (.inl ((e0,()),()))) (fun r0=>some (.inr ((r0,()),()))) v0 v1 v2
def aAm (n:Nat) (v:aaS.den):=qW n v.1.1 v.1.2.1 v.1.2.2.1
noncomputable def ala:di:=fD auh aaS abt ab7 (.exit 4) (aAm bH) 18
def ag4 (x0:bM):Option Qh:=bif(bJ (bC x0) 1)then bif(fB x0 0)then bz (MO (bT x0 0)) fun y1=>bif(!(bJ y1.1 6))then bz (qW bH x0 [] 0) fun y2=>dE y2 (fun a3=>some (a3.1.1,())) (fun b3=>some (b3.1.1,()))else bz (qW bH x0 [92] 0) fun y2=>dE y2 (fun a3=>some (a3.1.1,())) (fun b3=>some (b3.1.1,()))else none else bz (qW bH x0 [92] 0) fun y1=>dE y1 (fun a2=>some (a2.1.1,())) (fun b2=>some (b2.1.1,()))
def aos (x0:bM) (x1:Int) (x2:Bool):Option Qh:=bif(bJ x1 4)then bz (IY bH x0 x2 [39] 0) fun y0=>dE y0 (fun a1=>bif a1.1.1 then bif(eP a1.1.2.1 [39])then some ((bG a1.1.2.1 [39]),())else none else some (a1.1.2.1,())) (fun b1=>some (b1.1.1,()))else bif(bJ x1 5)then bz (Cm bH x0 x2 [34] 0) fun y0=>dE y0 (fun a1=>bif a1.1.1 then bif(eP a1.1.2.1 [34])then some ((bG a1.1.2.1 [34]),())else none else some (a1.1.2.1,())) (fun b1=>some (b1.1.1,()))else bif(fG x0 [])then some ([39,39],())else bz (azh x0 6) fun y0=>bif y0.1 then ag4 x0 else bz (aou x0) fun y1=>bif y1.1 then ag4 x0 else bz (qW bH x0 [] 0) fun y2=>dE y2 (fun a3=>some (a3.1.1,())) (fun b3=>some (b3.1.1,()))
def aC2:Sum:=⟨[.str,cO,.bool],V7,fun x=>aos x.1 x.2.1 x.2.2.1⟩
noncomputable def adF:Env:=iM prog tt 51 [(71,afP),(75,ax2),(77,ax3),(81,aDc),(82,aDd)] [(5,aCd),(16,aug),(31,auh)] [(5,auU),(16,ak9),(31,ala)]
def awc {γ:Type} (a:alv.den->Option γ) (b:ahR.den->Option γ) (c:aij.den->Option γ) (v:alv.den):Option γ:=acE (fun v0 v1 v2 v3=>a ((v0,v1,v2,v3,()),())) (fun e0 e1=>b ((e0,e1,()),())) (fun r0=>c ((r0,()),())) v.1.1 v.1.2.1 v.1.2.2.1 v.1.2.2.2.1
theorem aF5:dG adF 51 aBB auU:=uQ (awc) (h2:=by intros;simp only[awc,acE,bV,bW,bu,bQ,bY])
def amG {γ:Type} (a:aaR.den->Option γ) (b:abr.den->Option γ) (c:ab6.den->Option γ) (v:aaR.den):Option γ:=Rn (fun v0 v1 v2 v3=>a ((v0,v1,v2,v3,()),())) (fun e0 e1=>b ((e0,e1,()),())) (fun r0=>c ((r0,()),())) v.1.1 v.1.2.1 v.1.2.2.1 v.1.2.2.2.1
theorem aAZ:dG adF 51 arh ak9:=uQ (amG) (h2:=by intros;simp only[amG,Rn,bV,bW,bu,bQ,bY])
def amH {γ:Type} (a:aaS.den->Option γ) (b:abt.den->Option γ) (c:ab7.den->Option γ) (v:aaS.den):Option γ:=Ro (fun v0 v1 v2=>a ((v0,v1,v2,()),())) (fun e0=>b ((e0,()),())) (fun r0=>c ((r0,()),())) v.1.1 v.1.2.1 v.1.2.2.1
theorem aA0:dG adF 51 ari ala:=uQ (amH) (h2:=by intros;simp only[amH,Ro,bV,bW,bu,bQ,bY])
theorem aIz:dD adF 51 b51:=nJ [aBB,arh,ari] (aD (fM (aF5)) (aD (fM (aAZ)) (aD (fM (aA0)) aN)))
theorem arS:eu adF:=eA f51 (aD xI (aD afQ (aD Bz (aD ax5 (aD ax6 aN))))) (aIz)
theorem axO:dH prog 51 aC2:=sA arS
noncomputable def b22:Code:=(f22.body).getD .skip
noncomputable def aBw:Code:=cA (cA (cB (cA (cB (cB (b22))))))
def aB9:dW:=⟨[0,3,4,100003],[],[3],[],[2],[]⟩
def alp:SP:=⟨us [.v .str,.u,.u,.v .str,.v cO] 17,[]⟩
def ahN:SP:=⟨us [.u,.u,.u,.v .str] 18,[]⟩
def aif:SP:=⟨us [.u,.u,.v .str] 19,[]⟩
def acB {γ:Type} (rec:bM->bM->Int->Option γ) (kE kR:bM->Option γ) (v0 v1:bM) (v2:Int):Option γ:=bif(leI v2 5)then bz (aos v0 v2 true) fun y0=>bif(gU (bC y0.1) (bC v1))then rec v0 y0.1 (bU .i64 v2 1)else rec v0 v1 (bU .i64 v2 1)else kE v1
def Cj:Nat->bM->bM->Int->Option (ahN.den⊕aif.den)
 |0,_,_,_=>none
 |n+1,v0,v1,v2=>acB (Cj n) (fun e0=>some (.inl ((e0,()),()))) (fun r0=>some (.inr ((r0,()),()))) v0 v1 v2
def aFk (n:Nat) (v:alp.den):=Cj n v.1.1 v.1.2.1 v.1.2.2.1
noncomputable def auP:di:=fD aB9 alp ahN aif (.exit 0) (aFk bH) 6
def atd (x0:bM):Option Qh:=bz (aos x0 0 true) fun y0=>bz (Cj bH x0 y0.1 4) fun y1=>dE y1 (fun a2=>some (a2.1.1,())) (fun b2=>some (b2.1.1,()))
def aCQ:Sum:=⟨[.str],V7,fun x=>atd x.1⟩
noncomputable def arF:Env:=iM prog tt 22 [(51,aC2)] [(3,aB9)] [(3,auP)]
def av5 {γ:Type} (a:alp.den->Option γ) (b:ahN.den->Option γ) (c:aif.den->Option γ) (v:alp.den):Option γ:=acB (fun v0 v1 v2=>a ((v0,v1,v2,()),())) (fun e0=>b ((e0,()),())) (fun r0=>c ((r0,()),())) v.1.1 v.1.2.1 v.1.2.2.1
theorem aF0:dG arF 22 aBw auP:=uQ (av5) (h2:=by intros;simp only[av5,acB,bV,bW,bu,bQ,bY])
theorem aIs:dD arF 22 b22:=nJ [aBw] (aD (fM (aF0)) aN)
theorem arG:eu arF:=eA f22 (aD axO aN) (aIs)
theorem axt:dH prog 22 aCQ:=sA arG
end
section
open Go.RowKit
theorem bZ {a b:Int} (h1: -9223372036854775808<=a+b) (h2:a+b<=9223372036854775807):bU .i64 a b=a+b:=by
 unfold bU;rw[IntKind.wrap_i64];omega
theorem gQ {a b:Int} (h1: -9223372036854775808<=a-b) (h2:a-b<=9223372036854775807):dR .i64 a b=a-b:=by
 unfold dR;rw[IntKind.wrap_i64];omega
theorem azK {a b:Int}:leI a b=true↔a<=b:=by simp[leI]
theorem aAn {a b:Int}:gU a b=true↔a<b:=by simp[gU]
theorem ayX {a b:Int}:bJ a b=true↔a=b:=by simp[bJ]
theorem azv {α:Type} {l:List α} {i:Int}:fB l i=true↔0<=i/\i<l.length:=by simp[fB]
theorem aAo {α:Type} {l:List α} {i:Nat}:nD i l=true↔i<l.length:=by simp[nD,Qa]
theorem ao7 {n lo hi:Int}:eU n lo hi=true↔0<=lo/\lo<=hi/\hi<=n:=by simp[eU]
theorem bI {α:Type} {b:Bool} {x y:α} (h:b=true):(bif b then x else y)=x:=by rw[h];rfl
theorem dC {α:Type} {b:Bool} {x y:α} (h:b=false):(bif b then x else y)=y:=by rw[h];rfl
theorem pq {a b:Int} (h:a<=b):leI a b=true:=azK.2 h
theorem O3 {a b:Int} (h:b<a):leI a b=false:=by simp[leI];omega
theorem dZ {a b:Int} (h:a<b):gU a b=true:=aAn.2 h
theorem jZ {a b:Int} (h:b<=a):gU a b=false:=by simp[gU];omega
theorem Dy {a b:Int} (h: ¬a<=b):leI a b=false:=O3 (by omega)
theorem fV {a b:Int} (h: ¬a<b):gU a b=false:=jZ (by omega)
theorem eH {a b:Int} (h:a=b):bJ a b=true:=ayX.2 h
theorem dL {a b:Int} (h:a≠b):bJ a b=false:=by simp[bJ];exact h
theorem dN {α:Type} {l:List α} {i:Int} (h:0<=i) (h2:i<l.length):fB l i=true:=azv.2 ⟨h,h2⟩
theorem oM {α:Type} {l:List α} {i:Nat} (h:i<l.length):nD i l=true:=aAo.2 h
theorem fO {n lo hi:Int} (h:0<=lo) (h1:lo<=hi) (h2:hi<=n):eU n lo hi=true:=ao7.2 ⟨h,h1,h2⟩
theorem bF {α:Type} {l:List α}:bC l=(l.length:Int):=rfl
theorem dB {n:Nat} (h:n<1000000000000000000000000):n<bH:=by unfold bH;omega
theorem Au {α:Type} {l:List α} {d x:α} {i:Int} (h:i=l.length):dQ (l++[x]) d i=x:=by
 unfold dQ;subst h;simp[List.getD]
end
section
open List renaming length_append → ai, length_singleton → aU
open Go.RowKit
abbrev fH:=List uN
def lo (s:fH):List nZ:=(s.map fun f=>(f.1,f.2,())).reverse
def letter (m:Int):UInt8:=([84,67,80,79,83,68,66,86,73,65,82,69,76,88,35]:bM).getD m.toNat 0
def so (s:fH):bM:=(s.map fun f=>letter f.1).reverse
def po (s:fH):List Int:=(s.map (·.2)).reverse
theorem tu (f:uN) (s:fH):lo (f::s)=lo s++[(f.1,f.2,())]:=by simp[lo]
theorem oK (f:uN) (s:fH):so (f::s)=so s++[letter f.1]:=by simp[so]
theorem tK (f:uN) (s:fH):po (f::s)=po s++[f.2]:=by simp[po]
theorem oV (s:fH):(lo s).length=s.length:=by simp[lo]
theorem Dk (s:fH):(so s).length=s.length:=by simp[so]
theorem U1 (s:fH):(po s).length=s.length:=by simp[po]
def Dw (b:Int):Bool:=decide (b=32)||decide (b=9)||decide (b=10)||decide (b=124)||decide (b=38)||decide (b=59)||decide (b=60)||decide (b=62)||decide (b=40)||decide (b=41)
def isByte (b:Int):Prop:=0<=b/\b<256
theorem Sm {b:Int} (h:isByte b): ∃n:Fin 256,b=((n.val:Nat):Int):=⟨⟨b.toNat,by have:=h.2;have:=h.1;omega⟩,by have:=h.1;simp;omega⟩
theorem lL (s:bM) (i:Int):isByte (bT s i):=by
 grind [bT,isByte,UInt8.toNat_lt]
theorem aH2: ∀n:Fin 256,Hw ((n.val:Nat):Int)=some (Dw ((n.val:Nat):Int),()):=by decide+kernel
theorem aH3: ∀n:Fin 256,atl ((n.val:Nat):Int)=some (Dw ((n.val:Nat):Int),()):=by decide+kernel
theorem arw {b:Int} (h:isByte b):Hw b=some (Dw b,()):=by
 obtain⟨n,rfl⟩:=Sm h;exact aH2 n
theorem arx {b:Int} (h:isByte b):atl b=some (Dw b,()):=by
 obtain⟨n,rfl⟩:=Sm h;exact aH3 n
theorem XM {α:Type} {l:List α} (x:α) (h:l.length<1000000):dm (dR .i64 (bC (l++[x])) 1)=l.length:=by
 grind [bF,gQ,dm]
theorem Yj {α:Type} {l:List α} (x:α) (h:l.length<1000000):sub (l++[x]) 0 (dR .i64 (bC (l++[x])) 1)=l:=by
 have hl:(((l++[x]).length:Nat):Int)=l.length+1:=by simp
 rw[bF,hl,gQ (by omega) (by omega)];simp_all [sub]
theorem wR {α:Type} {l:List α} (x:α) (h:l.length<1000000):dR .i64 (bC (l++[x])) 1=l.length:=by
 grind [bF,gQ]
theorem alU {s:fH} (hb:s.length<1000000) (fr:Bool) (at_ m:Int):xq (lo s) fr at_ m=some ((lo ((m,at_)::s),(fr,(at_,()))),()):=by
 have h:dO (bG (lo s) [(m,(at_,()))]) 16=true:=by
  simp only[dO,bG,ai,oV,aU,decide_eq_true_eq,lC];omega
 simp_all [xq,bJ,bG,tu]
theorem QF {f g:Int×Int} {r:fH} (hb:(f::g::r).length<1000000) (fr:Bool) (at_:Int):xn (lo (f::g::r)) fr at_=some ((lo (g::r),(fr,(at_,()))),()):=by
 have hl:(lo (g::r)).length=r.length+1:=by rw[oV];rfl
 have hb':r.length+2<1000000:=by simpa using hb
 unfold xn;rw[tu f,wR _ (by omega),bI (dZ (by grind [bF])),bI (fO (by omega) (by omega) (by rw[bF];simp;omega))];simp[takeN,dm]
theorem sG {f:Int×Int} {r:fH} (hb:(f::r).length<1000000) (fr:Bool) (at_ m:Int):uY (lo (f::r)) fr at_ m=some ((lo ((m,f.2)::r),(fr,(at_,()))),()):=by
 have hl:(lo r).length=r.length:=oV r;have hb':r.length+1<1000000:=by simpa using hb
 unfold uY;rw[tu f,wR _ (by omega),bI (dN (by omega) (by simp;omega)),bI (oM (by simp[dm]))];simp[dm,dA,ig,tu]
theorem afj {f g:Int×Int} {r:fH} (hb:(f::g::r).length<1000000) (fr:Bool) (at_:Int):aj3 (lo (f::g::r)) fr at_=some ((lo (f::g::r),(fr,(at_,()))),(g.1,())):=by
 have hl:(lo r).length=r.length:=oV r;have hb':r.length+2<1000000:=by simpa using hb
 have e:CJ (dR .i64 (bC (lo (f::g::r))) 2) 0=r.length:=by
  grind [bF,gQ,oV,CJ]
 unfold aj3;rw[e,tu f,tu g,bI (dN (by omega) (by simp[hl];omega)),bI (oM (by simp[dm,hl]))];simp_all [dm,dA]
theorem GI {f:Int×Int} {r:fH} (hb:(f::r).length<1000000) (fr:Bool) (c:UInt8):Ed (so (f::r),(po (f::r),(fr,()))) [c]=some ((so r++[c],(po (f::r),(fr,()))),()):=by
 have hl:(so r).length=r.length:=Dk r;have hb':r.length+1<1000000:=by simpa using hb
 unfold Ed;simp only;rw[oK,Yj _ (by omega),wR _ (by omega),bI (fO (by omega) (by omega) (by rw[bF];simp;omega)),bI (by simp[eP,lC,hl];omega)];rfl
theorem ach {f:Int×Int} {r:fH} (hb:(f::r).length<1000000) (fr:Bool):JR (so (f::r),(po (f::r),(fr,())))=some ((so r,(po r,(fr,()))),()):=by
 have hl:(so r).length=r.length:=Dk r;have hp:(po r).length=r.length:=U1 r;have hb':r.length+1<1000000:=by simpa using hb
 unfold JR;simp only;rw[oK,tK,Yj _ (by omega),wR _ (by omega),bI (fO (by omega) (by omega) (by rw[bF];simp;omega)),bI (fO (by omega) (by omega) (by rw[bF];simp;omega))];simp[sub,hl,hp]
theorem D8 {α:Type} {f:α->α->Bool} (h: ∀x,f x x=true): ∀l:List α,xe f l l=true
 |[]=>rfl
 |x::l=>by simp[xe,h,D8 h l]
theorem Tc: ∀(t:Ty) (x:t.den),Za t x x=true
 |.unit,_=>rfl
 |.bool,x=>by simp[Za]
 |.int _,x=>by simp[Za,bJ]
 |.str,x=>by simp[Za,fG]
 |.list t,x=>D8 (Tc t) x
 |.pair a b,x=>by simp[Za,Tc]
theorem gJ (t:Ty) (x:List t.den):nH t x x=true:=D8 (Tc t) x
theorem dU (x:Int):bJ x x=true:=by simp[bJ]
theorem mD (x:bM):fG x x=true:=by simp[fG]
theorem iw (x:Bool):jl x x=true:=by simp[jl]
theorem aBb {s:fH} (hb:s.length<1000000) (fr:Bool) (c:UInt8) (at_:Int):xk (so s,(po s,(fr,()))) [c] at_=some ((so s++[c],(po s++[at_],(fr,()))),()):=by
 have hl:(so s).length=s.length:=Dk s;have hp:(po s).length=s.length:=U1 s;have h1:eP (so s) [c]=true:=by simp[eP,lC,hl];omega
 have h2:dO (bG [] (po s)) 8=true:=by simp[dO,bG,lC,hp];omega
 have h3:dO (bG (bG [] (po s)) [at_]) 8=true:=by simp[dO,bG,lC,hp];omega
 (unfold xk;delta lY kF)
 simp_all [dU,mD,iw,gJ,bu,bG]
theorem QJ (a:bM) (b:List Int) (fr fr':Bool):yw (a,(b,(fr,()))) fr'=some ((a,(b,(fr',()))),()):=rfl
end
section
open Go.RowKit
def IQ (s:fH) (b at_:Int):Option fH:=if b=92 then some ((13,at_)::s)else if b=36 then some ((12,at_)::s)else if b=96 then some ((6,at_)::s)else none
def La (m:Int) (s:fH) (fr:Bool) (b at_:Int):fH×Bool:=if b=92 then((13,at_)::s,fr)else if b=35/\fr=true then((14,at_)::s,fr)else if b=40 then(if m=0 then s else(2,at_)::s,true)else if b=41 then(if m=0 then s else s.tail, !decide (m=1))else if b=39 then((4,at_)::s,false)else if b=34 then((5,at_)::s,false)else if b=36 then((12,at_)::s,false)else if b=96 then((6,at_)::s,false)else(s,Dw b)
def jk (m:Int) (s:fH) (fr:Bool) (b at_:Int):fH×Bool:=
 if m=0\/m=1\/m=2 then La m s fr b at_
 else if m=13 then(s.tail,fr&&decide (b=10))
 else if m=4 then(if b=39 then s.tail else s,fr)
 else if m=14 then(if b=10 then(s.tail,true)else(s,fr))
 else if m=6 then(if b=96 then s.tail else if b=92 then(13,at_)::s else s,fr)
 else match IQ s b at_ with
  |some s'=>(s',fr)
  |none=>
   if m=9\/m=10 then(if b=40 then(10,at_)::s else if b=41 then(if m=10 then s.tail else(11,(s.headD (0,0)).2)::s.tail)else s,fr)
   else(if b=34 then(if m=5 then s.tail else(5,at_)::s)else if b=125/\m≠5 then s.tail else if b=39/\m=7 then(4,at_)::s else s,fr)
def fQ (s:fH) (fr:Bool) (b at_:Int):fH×Bool:=
 match s with
 |[]=>([],fr)
 |f::r=>
  if f.1=12 then
   (if b=40 then((3,f.2)::r,true)
   else if b=123 then((if(r.headD (0,0)).1=5\/(r.headD (0,0)).1=8 then 8 else 7,f.2)::r,fr)
   else if b=36 then(r,fr)
   else jk (r.headD (0,0)).1 r fr b at_)
  else if f.1=3 then(if b=40 then((9,f.2)::r,false)else jk 1 ((1,f.2)::r) fr b at_)
  else if f.1=11 then(if b=41 then(r,fr)else jk 9 ((9,f.2)::r) fr b at_)
  else jk f.1 (f::r) fr b at_
theorem nO (b:Int):b=10\/b=34\/b=35\/b=36\/b=39\/b=40\/b=41\/b=92\/b=96\/b=123\/b=125\/
  (b≠10/\b≠34/\b≠35/\b≠36/\b≠39/\b≠40/\b≠41/\b≠92/\b≠96/\b≠123/\b≠125):=by omega
theorem gY (a b:Int):bJ a b=decide (a=b):=by
 rfl
def pst (x:fH×Bool) (at_:Int):(List nZ×Bool×Int×Unit):=(lo x.1,(x.2,(at_,())))
def Ia (x:fH×Bool):bM×(List Int×oP):=(so x.1,(po x.1,(x.2,())))
theorem aiG {m:Int} {f:Int×Int} {r:fH} (hm:m=0\/((m=1\/m=2)/\ ∃g r',r=g::r')) (hb:(f::r).length<1000000) (fr:Bool) {b:Int} (hby:isByte b) (at_:Int):
  Xt (lo (f::r)) fr at_ m b=some (pst (La m (f::r) fr b at_) at_,()):=by
 have e:=arw hby;rcases hm with rfl|⟨rfl|rfl,g,r,rfl⟩<;>rcases nO b with rfl|rfl|rfl|rfl|rfl|rfl|rfl|rfl|rfl|rfl|rfl|⟨h1,h2,h3,h4,h5,h6,h7,h8,h9,h10,h11⟩<;>cases fr<;>
  simp_all [Xt,TB,La,pst,gY,alU,QF,Dw,bu,JV]
theorem aA4 {m:Int} {f:Int×Int} {r:fH} (hm:m=0\/((m=1\/m=2\/m=4\/m=5\/m=6\/m=7\/m=8\/m=9\/m=10\/m=13\/m=14)/\ ∃g r',r=g::r')) (hb:(f::r).length<1000000) (fr:Bool) {b:Int} (hby:isByte b) (at_:Int):
  OJ (lo (f::r)) fr at_ m b=some (pst (jk m (f::r) fr b at_) at_,()):=by
 rcases hm with rfl|⟨rfl|rfl|hm,g,r,rfl⟩
 ·simp[OJ,jk,gY,aiG (.inl rfl) hb fr hby at_,pst,bu,BR]
 ·simp[OJ,jk,gY,aiG (.inr ⟨.inl rfl,g,r,rfl⟩) hb fr hby at_,pst,bu,BR]
 ·simp[OJ,jk,gY,aiG (.inr ⟨.inr rfl,g,r,rfl⟩) hb fr hby at_,pst,bu,BR]
 ·rcases hm with rfl|rfl|rfl|rfl|rfl|rfl|rfl|rfl|rfl<;>rcases nO b with rfl|rfl|rfl|rfl|rfl|rfl|rfl|rfl|rfl|rfl|rfl|⟨h1,h2,h3,h4,h5,h6,h7,h8,h9,h10,h11⟩<;>cases fr<;>
  simp_all [OJ,aj6,aj7,TB,jk,IQ,pst,gY,alU,QF,sG,bu,BR,Zl,Zm]
def Ug (m:Int):Prop:=m=0\/m=1\/m=2\/m=5\/m=6\/m=7\/m=8\/m=9\/m=10
def iy:fH->Prop
 |[]=>False
 |[f]=>f.1=0
 |f::g::r=>1<=f.1/\f.1<=14/\Ug g.1/\iy (g::r)
theorem aH7: ∃k,bH=k+2:=by
 simp_all [bH]
theorem ae5 {l:List nZ} {x:Int×Int×Unit} (h:l.length<1000000):dA (l++[x]) (0,(0,())) (dm (dR .i64 (bC (l++[x])) 1))=x:=by
 rw[XM x h];simp[dA]
theorem Zw {α:Type} {l:List α} {x:α} (h:l.length<1000000):fB (l++[x]) (dR .i64 (bC (l++[x])) 1)=true:=by
 grind [wR,dN]
theorem alc {α:Type} {l:List α} {x:α} (h:l.length<1000000):nD (dm (dR .i64 (bC (l++[x])) 1)) (l++[x])=true:=by
 simp_all [XM,oM]
theorem yQ {f:Int×Int} {r:fH} (n:Nat) (hm:f.1=0\/((f.1=1\/f.1=2\/f.1=4\/f.1=5\/f.1=6\/f.1=7\/f.1=8\/f.1=9\/f.1=10\/f.1=13\/f.1=14)/\ ∃g r',r=g::r')) (hb:(f::r).length<1000000) (fr:Bool) {b:Int} (hby:isByte b) (at_:Int):
  wJ (n+1) b fr at_ (lo (f::r))=some (.inl ((),((),()),(((jk f.1 (f::r) fr b at_).2,at_,()),lo (jk f.1 (f::r) fr b at_).1,()))):=by
 have hl:(lo r).length<1000000:=by grind [oV]
 have n12:f.1≠12:=by omega
 have n3:f.1≠3:=by omega
 have n11:f.1≠11:=by omega
 have hp:=aA4 hm hb fr hby at_;rw[wJ,Bg];rw[show lo (f::r)=lo r++[(f.1,f.2,())] from tu f r,Zw hl,alc hl,ae5 hl];simp only[cond_true,gY,n12,n3,n11,decide_false,cond_false];rw[<-tu,hp,bu];rfl
theorem aoN {f:Int×Int} {r:fH} (hg:iy (f::r)) (hl:Ug f.1):f.1=0\/((f.1=1\/f.1=2\/f.1=4\/f.1=5\/f.1=6\/f.1=7\/f.1=8\/f.1=9\/f.1=10\/f.1=13\/f.1=14)/\ ∃g r',r=g::r'):=by
 cases r with
 |nil=>exact .inl hg
 |cons g r=>
  unfold Ug at hl
  grind
theorem agX {s:fH} (hg:iy s) (hb:s.length<1000000) (fr:Bool) {b:Int} (hby:isByte b) {at_:Int} (h0:0<=at_) (h1:at_<1000000000):Xr (lo s) fr at_ b=some (pst (fQ s fr b at_) (at_+1),()):=by
 obtain⟨k,hk⟩:=aH7;cases s with
 |nil=>cases hg
 |cons f r=>
 have hl:(lo r).length<1000000:=by grind [oV]
 have hne:bJ (bC (lo (f::r))) 0=false:=dL (by rw[bF,oV];simp;omega);have ha:bU .i64 at_ 1=at_+1:=bZ (by omega) (by omega);unfold Xr;rw[hne,cond_false,hk];by_cases hp:f.1=12\/f.1=3\/f.1=11
 ·cases r with
  |nil=>have:f.1=0:=hg;omega
  |cons g r=>
  have hlow:=aoN hg.2.2.2 hg.2.2.1;have hb2:(g::r).length<1000000:=by grind
  rw[show k+2=(k+1)+1 from rfl,wJ,Bg,show lo (f::g::r)=lo (g::r)++[(f.1,f.2,())] from tu f _,Zw hl,alc hl,ae5 hl,<-tu];rcases hp with e|e|e
  ·have hd:OI (lo (f::g::r)) fr at_ b=some ((if b=40 then(lo ((3,f.2)::g::r),(true,(at_,())))else if b=123 then(lo ((if g.1=5\/g.1=8 then 8 else 7,f.2)::g::r),(fr,(at_,())))else(lo (g::r),(fr,(at_,())))),(decide (b=40\/b=123\/b=36),())):=by
    by_cases e1:b=40
    ·subst e1;simp[OI,gY,sG hb,bu]
    ·by_cases e2:b=123
     ·subst e2;by_cases e5:g.1=5
      ·simp[OI,gY,sG hb,afj hb,bu,e5]
      ·by_cases e8:g.1=8<;>simp[OI,gY,sG hb,afj hb,bu,e5,e8]
     ·by_cases e3:b=36<;>simp[OI,gY,QF hb,bu,e1,e2,e3]
   simp only[cond_true,gY,e,decide_true];rw[hd,bu];by_cases e1:b=40\/b=123\/b=36
   ·simp only[e1,decide_true,cond_true,bu,dE,ha];rcases e1 with rfl|rfl|rfl<;>simp[fQ,e,pst,ha]
   ·have e1':b≠40/\b≠123/\b≠36:=by omega
    simp only[e1'.1,e1'.2.1,e1'.2.2,or_self,decide_false,cond_false,if_false];simp_all [yQ,bu,dE,fQ,pst]
  ·simp only[cond_true,gY,e,decide_true,show decide ((3:Int)=12)=false from rfl,cond_false];by_cases e1:b=40
   ·simp_all [sG,bu,dE,fQ,pst]
   ·simp only[e1,decide_false,cond_false,sG hb,bu];rw[yQ k (f:=(1,f.2)) (.inr ⟨.inl rfl,g,r,rfl⟩) (by simpa using hb) fr hby at_,bu];simp[dE,fQ,e,e1,pst,ha]
  ·simp only[cond_true,gY,e,decide_true,show decide ((11:Int)=12)=false from rfl,show decide ((11:Int)=3)=false from rfl,cond_false];by_cases e1:b=41
   ·simp_all [QF,bu,dE,fQ,pst]
   ·simp only[e1,decide_false,cond_false,sG hb,bu];rw[yQ k (f:=(9,f.2)) (.inr ⟨by simp,g,r,rfl⟩) (by simpa using hb) fr hby at_,bu];simp[dE,fQ,e,e1,pst,ha]
 ·have hm:f.1=0\/((f.1=1\/f.1=2\/f.1=4\/f.1=5\/f.1=6\/f.1=7\/f.1=8\/f.1=9\/f.1=10\/f.1=13\/f.1=14)/\ ∃g r',r=g::r'):=by
   cases r with
   |nil=>exact .inl hg
   |cons g r=>have h1:=hg.1;have h2:=hg.2.1;grind
  simp_all [yQ,bu,dE,fQ,pst]
end
section
open Go.RowKit
theorem amL (f:uN) (r:fH) (h:r.length<1000000):bT (so (f::r)) (dR .i64 (bC (so (f::r))) 1)=((letter f.1).toNat:Int):=by
 rw[oK,wR _ (by rw[Dk];exact h)];simp[bT,List.getD]
theorem aCI (f:uN) (r:fH) (h:r.length<1000000):fB (so (f::r)) (dR .i64 (bC (so (f::r))) 1)=true:=by
 rw[oK];exact Zw (by rw[Dk];exact h)
theorem awQ (f g:uN) (r:fH) (h:r.length<900000):fB (so (f::g::r)) (dR .i64 (bC (so (f::g::r))) 2)=true/\bT (so (f::g::r)) (dR .i64 (bC (so (f::g::r))) 2)=((letter g.1).toNat:Int):=by
 have hl:(((so (f::g::r)).length:Nat):Int)=r.length+2:=by rw[Dk];simp;omega
 rw[bF,hl,gQ (by omega) (by omega),show((r.length:Int)+2-2)=r.length by omega];refine⟨dN (by omega) (by rw[hl];omega), ?_⟩;rw[oK,oK];simp[bT,List.getD,Dk]
theorem lets:letter 0=84/\letter 1=67/\letter 2=80/\letter 3=79/\letter 4=83/\letter 5=68/\letter 6=66/\letter 7=86/\letter 8=73/\letter 9=65/\letter 10=82/\letter 11=69/\letter 12=76/\letter 13=88/\letter 14=35:=by decide
theorem Bd {s:fH} (hb:s.length<1000000) (fr:Bool) (m:Int) (c:UInt8) (hc:c=letter m) (at_:Int):xk (so s,(po s,(fr,()))) [c] at_=some ((so ((m,at_)::s),(po ((m,at_)::s),(fr,()))),()):=by
 subst hc;rw[aBb hb,oK,tK]
theorem aiH {m:Int} {f:Int×Int} {r:fH} (hm:m=0\/m=1\/m=2) (hb:(f::r).length<1000000) (fr:Bool) {b:Int} (hby:isByte b) (at_:Int):
  ajK (so (f::r),(po (f::r),(fr,()))) ((letter m).toNat:Int) b at_=some (Ia (La m (f::r) fr b at_),()):=by
 have e:=arx hby;have p13:=Bd hb fr 13 88 rfl at_;have p4:=Bd hb fr 4 83 rfl at_;have p5:=Bd hb fr 5 68 rfl at_;have p12:=Bd hb fr 12 76 rfl at_;have p6:=Bd hb fr 6 66 rfl at_;have p14:=Bd hb fr 14 35 rfl at_;have p2:=Bd hb fr 2 80 rfl at_;have pp:=ach hb fr;have hlt:=lets;rcases hm with rfl|rfl|rfl<;>rcases nO b with rfl|rfl|rfl|rfl|rfl|rfl|rfl|rfl|rfl|rfl|rfl|⟨h1,h2,h3,h4,h5,h6,h7,h8,h9,h10,h11⟩<;>cases fr<;>
  simp_all [ajK,Xq,La,Ia,gY,QJ,Dw,bu,mD,gJ,iw,Zi,Zj]
theorem QH {m:Int} {f:Int×Int} {r:fH} (hf:f.1=m) (hm:m=0\/m=1\/m=2\/m=4\/m=5\/m=6\/m=7\/m=8\/m=9\/m=10\/m=13\/m=14) (hb:(f::r).length<1000000) (fr:Bool) {b:Int} (hby:isByte b) (at_:Int):
  Ht (so (f::r),(po (f::r),(fr,()))) ((letter m).toNat:Int) b at_=some (Ia (jk m (f::r) fr b at_),()):=by
 have hlt:=lets;have p13:=Bd hb fr 13 88 rfl at_;have p12:=Bd hb fr 12 76 rfl at_;have p6:=Bd hb fr 6 66 rfl at_;have p10:=Bd hb fr 10 82 rfl at_;have p5:=Bd hb fr 5 68 rfl at_;have p4:=Bd hb fr 4 83 rfl at_;have pp:=ach hb fr;have tt:=GI hb fr 69;have e11:so r++[69]=so ((11,f.2)::r):=by rw[oK];rfl
 have e11':po (f::r)=po ((11,f.2)::r):=by simp[tK]
 rcases hm with rfl|rfl|rfl|hm
 ·have hp:=aiH (.inl rfl) hb fr hby at_;simp[Ht,jk,gY,bu,Ia,BQ,vF,FV,FX]at hp ⊢;rw[hp];simp[bu,hlt]
 ·have hp:=aiH (.inr (.inl rfl)) hb fr hby at_;simp[Ht,jk,gY,bu,Ia,BQ,vF,FV,FX]at hp ⊢;rw[hp];simp[bu,hlt]
 ·have hp:=aiH (.inr (.inr rfl)) hb fr hby at_;simp[Ht,jk,gY,bu,Ia,BQ,vF,FV,FX]at hp ⊢;rw[hp];simp[bu,hlt]
 ·rcases hm with rfl|rfl|rfl|rfl|rfl|rfl|rfl|rfl|rfl<;>rcases nO b with rfl|rfl|rfl|rfl|rfl|rfl|rfl|rfl|rfl|rfl|rfl|⟨h1,h2,h3,h4,h5,h6,h7,h8,h9,h10,h11⟩<;>cases fr<;>
  simp_all [Ht,Xq,jk,IQ,Ia,gY,QJ,bu,mD,gJ,iw,fG,BQ,vF,FV,FX]
end
section
open Go.RowKit
theorem F5 {f:Int×Int} {r:fH} (h:iy (f::r)):0<=f.1/\f.1<=14:=by
 cases r with
 |nil=>have:f.1=0:=h;omega
 |cons g r=>have:=h.1;have:=h.2.1;omega
theorem letter_eq {m:Int} (h0:0<=m) (h1:m<=14):decide (((letter m).toNat:Int)=76)=decide (m=12)/\decide (((letter m).toNat:Int)=79)=decide (m=3)/\decide (((letter m).toNat:Int)=69)=decide (m=11)/\
  decide (((letter m).toNat:Int)=68)=decide (m=5)/\decide (((letter m).toNat:Int)=73)=decide (m=8):=by
 have:m=0\/m=1\/m=2\/m=3\/m=4\/m=5\/m=6\/m=7\/m=8\/m=9\/m=10\/m=11\/m=12\/m=13\/m=14:=by omega
 rcases this with rfl|rfl|rfl|rfl|rfl|rfl|rfl|rfl|rfl|rfl|rfl|rfl|rfl|rfl|rfl<;>decide
theorem agY {s:fH} (hg:iy s) (hb:s.length<900000) (fr:Bool) {b:Int} (hby:isByte b) (at_:Int):ag9 (so s,(po s,(fr,()))) b at_=some (Ia (fQ s fr b at_),()):=by
 cases s with
 |nil=>cases hg
 |cons f r=>
 have hb1:(f::r).length<1000000:=by omega
 have hr:r.length<1000000:=by simp at hb;omega
 obtain⟨g0,g1⟩:=F5 hg;obtain⟨l1,l2,l3,-,-⟩:=letter_eq g0 g1;unfold ag9;simp only;rw[aCI f r hr,amL f r hr];simp only[cond_true,gY,l1,l2,l3];by_cases e:f.1=12
 ·cases r with
  |nil=>have:f.1=0:=hg;omega
  |cons g r=>
  have hlow:=hg.2.2.1;have hb2:(g::r).length<1000000:=by omega
  obtain⟨q0,q1⟩:=F5 hg.2.2.2;obtain⟨-,-,-,l4,l5⟩:=letter_eq q0 q1;obtain⟨b1,b2⟩:=awQ f g r (by simp at hb;omega);simp only[e,decide_true,cond_true];by_cases e1:b=40
  ·subst e1;simp only[decide_true,cond_true,GI hb1,bu,QJ];simp[fQ,e,Ia,oK,tK,lets]
  ·by_cases e2:b=123
   ·subst e2;simp only[e1,decide_true,decide_false,cond_true,cond_false,b1,b2,l4,l5,GI hb1,bu]
    grind [fQ,Ia,oK,tK,lets]
   ·simp only[e1,e2,decide_false,cond_false,ach hb1,bu];by_cases e3:b=36
    ·simp_all [fQ,Ia]
    ·simp only[e3,decide_false,cond_false];rw[aCI g r (by simp at hr;omega),amL g r (by simp at hr;omega)];have hm:g.1=0\/g.1=1\/g.1=2\/g.1=4\/g.1=5\/g.1=6\/g.1=7\/g.1=8\/g.1=9\/g.1=10\/g.1=13\/g.1=14:=by grind [Ug]
     rw[cond_true,QH rfl hm hb2 fr hby at_,bu];simp_all [fQ]
 ·simp only[e,decide_false,cond_false];by_cases e3:f.1=3
  ·simp only[e3,decide_true,cond_true];by_cases e1:b=40
   ·subst e1;simp only[decide_true,cond_true,GI hb1,bu,QJ];simp[fQ,e3,Ia,oK,tK,lets]
   ·simp only[e1,decide_false,cond_false,GI hb1,bu];have h1:=QH (f:=(1,f.2)) (r:=r) rfl (.inr (.inl rfl)) (by simpa using hb1) fr hby at_;rw[oK,tK]at h1;simp only[lets]at h1;rw[show((67:Int))=(((67:UInt8).toNat:Nat):Int) from rfl,tK f r,h1,bu]
    grind [fQ]
  ·simp only[e3,decide_false,cond_false];by_cases e11:f.1=11
   ·simp only[e11,decide_true,cond_true];by_cases e1:b=41
    ·simp_all [ach,bu,fQ,Ia]
    ·simp only[e1,decide_false,cond_false,GI hb1,bu];have h1:=QH (f:=(9,f.2)) (r:=r) rfl (by simp) (by simpa using hb1) fr hby at_;rw[oK,tK]at h1;simp only[lets]at h1;rw[show((65:Int))=(((65:UInt8).toNat:Nat):Int) from rfl,tK f r,h1,bu]
     grind [fQ]
   ·simp only[e11,decide_false,cond_false];have hm:f.1=0\/f.1=1\/f.1=2\/f.1=4\/f.1=5\/f.1=6\/f.1=7\/f.1=8\/f.1=9\/f.1=10\/f.1=13\/f.1=14:=by omega
    rw[QH rfl hm hb1 fr hby at_,bu];simp_all [fQ]
theorem aoz {s:fH} (hg:iy s) (hl: ∃f r,s=f::r/\Ug f.1) {m at_:Int} (h1:1<=m) (h2:m<=14):iy ((m,at_)::s):=by
 obtain⟨f,r,rfl,hf⟩:=hl;exact⟨h1,h2,hf,hg⟩
theorem Em {f:Int×Int} {r:fH} (hg:iy (f::r)) (hr:r≠[]) {m at_:Int} (h1:1<=m) (h2:m<=14):iy ((m,at_)::r):=by
 cases r with
 |nil=>exact absurd rfl hr
 |cons g r=>exact⟨h1,h2,hg.2.2.1,hg.2.2.2⟩
theorem F6 {f:Int×Int} {r:fH} (hg:iy (f::r)) (hr:r≠[]):iy r:=by
 cases r with
 |nil=>exact absurd rfl hr
 |cons g r=>exact hg.2.2.2
theorem oz {f:Int×Int} {r:fH} (hg:iy (f::r)) (h:f.1≠0):r≠[]:=by
 rintro rfl;exact h hg
theorem BU {m:Int} {f:Int×Int} {r:fH} (hf:f.1=m) (hg:iy (f::r)) (hm:m≠12/\m≠3/\m≠11) (fr:Bool) (b at_:Int):
  iy (jk m (f::r) fr b at_).1/\(jk m (f::r) fr b at_).1.length<=(f::r).length+1:=by
 obtain⟨g0,g1⟩:=F5 hg;have hr:f.1≠0->r≠[]:=oz hg;have cases_m:m=0\/m=1\/m=2\/m=4\/m=5\/m=6\/m=7\/m=8\/m=9\/m=10\/m=13\/m=14:=by omega
 have push: ∀k,Ug f.1->1<=k->k<=14->iy ((k,at_)::f::r):=fun k hl h1 h2=>aoz hg ⟨f,r,rfl,hl⟩ h1 h2;have lowf:m=0\/m=1\/m=2\/m=5\/m=6\/m=7\/m=8\/m=9\/m=10->Ug f.1:=fun h=>by simp_all [Ug]
 have tl:m≠0->iy r:=fun h=>F6 hg (hr (by rw[hf];exact h));have st: ∀k,m≠0->1<=k->k<=14->iy ((k,f.2)::r):=fun k h h1 h2=>Em hg (hr (by rw[hf];exact h)) h1 h2;rcases cases_m with e|e|e|e|e|e|e|e|e|e|e|e<;>subst e<;>rcases nO b with rfl|rfl|rfl|rfl|rfl|rfl|rfl|rfl|rfl|rfl|rfl|⟨h1,h2,h3,h4,h5,h6,h7,h8,h9,h10,h11⟩<;>cases fr<;>
  simp_all [jk,La,IQ]<;>first|omega|(refine⟨?_,by omega⟩;assumption)
end
section
open List renaming drop_of_length_le → az, drop_eq_getElem_cons → aA, drop_zero → aQ, eq_nil_of_length_eq_zero → bi
open Go.RowKit
theorem good_step {s:fH} (hg:iy s) (fr:Bool) (b at_:Int):iy (fQ s fr b at_).1/\(fQ s fr b at_).1.length<=s.length+1:=by
 cases s with
 |nil=>cases hg
 |cons f r=>
 simp only[fQ];split
 ·rename_i e
  have hr:r≠[]:=oz hg (by omega);have hs: ∀k,1<=k->k<=14->iy ((k,f.2)::r):=fun k h1 h2=>Em hg hr h1 h2;have ht:=F6 hg hr;split
  ·simp_all
  ·split
   ·grind
   ·split
    ·grind
    ·cases r with
     |nil=>exact absurd rfl hr
     |cons g r=>
      have hlow:=hg.2.2.1;have h:=BU rfl ht (by unfold Ug at hlow;omega) fr b at_
      grind
 ·split
  ·rename_i e
   have hr:r≠[]:=oz hg (by omega);split
   ·grind [Em]
   ·have h:=BU (f:=(1,f.2)) rfl (Em hg hr (by omega) (by omega)) (by omega) fr b at_
    assumption
  ·split
   ·rename_i e
    have hr:r≠[]:=oz hg (by omega);split
    ·grind [F6]
    ·have h:=BU (f:=(9,f.2)) rfl (Em hg hr (by omega) (by omega)) (by omega) fr b at_
     assumption
   ·exact BU rfl hg (by omega) fr b at_
def md (s:fH):List Int:=s.map (·.1)
theorem KI (m:Int) {s s':fH} (h:md s=md s') (fr:Bool) (b a a':Int):md (jk m s fr b a).1=md (jk m s' fr b a').1/\(jk m s fr b a).2=(jk m s' fr b a').2:=by
 have ht:md s.tail=md s'.tail:=by
  have:=congrArg List.tail h;simpa [md] using this
 have cases_m:m=0\/m=1\/m=2\/m=4\/m=5\/m=6\/m=7\/m=9\/m=10\/m=13\/m=14\/(m≠0/\m≠1/\m≠2/\m≠4/\m≠5/\m≠6/\m≠7/\m≠9/\m≠10/\m≠13/\m≠14):=by omega
 have hc: ∀k (p q:Int),md ((k,p)::s)=md ((k,q)::s'):=fun k p q=>by simp_all [md]
 have hd: ∀k (p q:Int),md ((k,p)::s.tail)=md ((k,q)::s'.tail):=fun k p q=>by simp_all [md]
 rcases cases_m with rfl|rfl|rfl|rfl|rfl|rfl|rfl|rfl|rfl|rfl|rfl|⟨m1,m2,m3,m4,m5,m6,m7,m8,m9,m10,m11⟩<;>rcases nO b with rfl|rfl|rfl|rfl|rfl|rfl|rfl|rfl|rfl|rfl|rfl|⟨h1,h2,h3,h4,h5,h6,h7,h8,h9,h10,h11⟩<;>cases fr<;>
  simp_all [jk,La,IQ]<;>first|exact h|exact ht|exact hc _ _ _|exact hd _ _ _
theorem aAp {s s':fH} (h:md s=md s') (fr:Bool) (b a a':Int):md (fQ s fr b a).1=md (fQ s' fr b a').1/\(fQ s fr b a).2=(fQ s' fr b a').2:=by
 cases s with
 |nil=>cases s' with
  |nil=>exact⟨rfl,rfl⟩
  |cons _ _=>simp[md]at h
 |cons f r=>cases s' with
  |nil=>simp[md]at h
  |cons f' r'=>
   have h1:f.1=f'.1:=by simp_all [md]
   have h2:md r=md r':=by simp_all [md]
   have h3:(r.headD (0,0)).1=(r'.headD (0,0)).1:=by
    cases r<;>cases r'<;>simp[md]at h2 ⊢;exact h2.1
   have hc: ∀k (p q:Int),md ((k,p)::r)=md ((k,q)::r'):=fun k p q=>by simp_all [md]
   simp only[fQ,<-h1,<-h3];split
   ·split
    ·grind
    ·split
     ·grind
     ·split
      ·exact⟨h2,rfl⟩
      grind [KI]
   ·split
    ·split
     ·grind
     grind [KI]
    ·split
     ·split
      ·exact⟨h2,rfl⟩
      grind [KI]
     grind [KI]
def jA (b:UInt8):Int:=(b.toNat:Int)
def mX:bM->Int->fH×Bool->fH×Bool
 |[],_,x=>x
 |b::l,a,x=>mX l (a+1) (fQ x.1 x.2 (jA b) a)
def fE:fH×Bool:=([(0,0)],true)
theorem jY:iy fE.1:=rfl
theorem drop_at {s:List UInt8} {i:Int} (h0:0<=i) (h:i<s.length): ∃b,s.drop i.toNat=b::s.drop (i+1).toNat/\bT s i=jA b:=by
 have hi:i.toNat<s.length:=by omega
 refine⟨s[i.toNat], ?_, ?_⟩
 ·grind [aA]
 simp_all [bT,jA]
theorem JE {s:List UInt8} {i:Int} (h:s.length<=i):s.drop i.toNat=[]:=az (by omega)
theorem aCA (s:bM) (hs:s.length<=100000): ∀(N:Nat) (i:Int) (x:fH×Bool),(s.length:Int)-i<N->0<=i->i<=s.length->iy x.1->(x.1.length:Int)<=i+1->
  Kr N s (bC s) i x.2 i (lo x.1)=some (.inl ((),(((mX (s.drop i.toNat) i x).2,(s.length:Int),()),lo (mX (s.drop i.toNat) i x).1,())))
 |0,i,x,h,_,_,_,_=>by omega
 |N+1,i,x,h,h0,hi,hg,hl=>by
  rw[Kr,QZ];by_cases e:i<s.length
  ·obtain⟨b,hd,hb⟩:=drop_at h0 e;rw[bI (dZ (b:=bC s) e),bI (dN h0 e),agX hg (by omega) x.2 (lL s i) h0 (by omega),bu,hd,mX,<-hb];simp only[pst];rw[bZ (by omega) (by omega)];have hst:=good_step hg x.2 (bT s i) i;exact aCA s hs N (i+1) (fQ x.1 x.2 (bT s i) i) (by omega) (by omega) (by omega) hst.1 (by have:=hst.2;omega)
  ·have hi':i=s.length:=by omega
   simp_all [jZ,bF,mX]
theorem aCB (s:bM) (hs:s.length<=100000) (v5:bM) (v6:Bool): ∀(N:Nat) (i:Int) (x:fH×Bool),(s.length:Int)-i<N->0<=i->i<=s.length->iy x.1->(x.1.length:Int)<=i+1->
  Um N s i (so x.1) (po x.1) x.2 v5 v6=some (.inl ((),((so (mX (s.drop i.toNat) i x).1,po (mX (s.drop i.toNat) i x).1,(mX (s.drop i.toNat) i x).2,()),(v5,v6,()),())))
 |0,i,x,h,_,_,_,_=>by omega
 |N+1,i,x,h,h0,hi,hg,hl=>by
  rw[Um,acV];by_cases e:i<s.length
  ·obtain⟨b,hd,hb⟩:=drop_at h0 e;rw[bI (dZ (b:=bC s) e),bI (dN h0 e),agY hg (by omega) x.2 (lL s i) i,bu,hd,mX,<-hb];simp only[Ia];rw[bZ (by omega) (by omega)];have hst:=good_step hg x.2 (bT s i) i;exact aCB s hs v5 v6 N (i+1) (fQ x.1 x.2 (bT s i) i) (by omega) (by omega) (by omega) hst.1 (by have:=hst.2;omega)
  simp_all [jZ,bF,JE,mX]
theorem Ej: ∀(l:bM) (a:Int) (x:fH×Bool),iy x.1->iy (mX l a x).1/\(mX l a x).1.length<=x.1.length+l.length
 |[],a,x,h=>⟨h,by simp[mX]⟩
 |b::l,a,x,h=>by
  have h1:=good_step h x.2 (jA b) a;have h2:=Ej l (a+1) (fQ x.1 x.2 (jA b) a) h1.1
  grind [mX]
theorem OB {n:Nat} (h:n<=1000000000):n<bH:=by unfold bH;omega
theorem aHJ (s:bM) (hs:s.length<=100000):ajQ s=some (lo (mX s 0 fE).1,((mX s 0 fE).2,())):=by
 have h:=aCA s hs bH 0 fE (by have:=OB (n:=s.length) (by omega);omega) (by omega) (by omega) jY (by simp[fE]);have hg:=Ej s 0 fE jY;unfold ajQ;rw[show([(0,(0,()))]:List nZ)=lo fE.1 from rfl,show(true:Bool)=fE.2 from rfl,h,bu];simp only[dE,Int.toNat_zero,aQ];have hlen:(lo (mX s 0 fE).1).length≠0:=by
  rw[oV];intro e;rw[bi e]at hg;exact hg.1
 rw[dC (dL (by rw[bF];omega))];have hc:oh (lo (mX s 0 fE).1)=some (lo (mX s 0 fE).1,()):=by
  unfold oh rO;have:dO (lo (mX s 0 fE).1) 16=true:=by
   have:=hg.2;have h1:fE.1.length=1:=rfl;simp only[dO,oV,decide_eq_true_eq,lC];omega
  rw[this];rfl
 grind [bu,ajZ,gY,bF]
theorem aHK (s:bM) (hs:s.length<=100000):azo s=some (Ia (mX s 0 fE),()):=by
 have h:=aCB s hs [] false bH 0 fE (by have:=OB (n:=s.length) (by omega);omega) (by omega) (by omega) jY (by simp[fE]);unfold azo;rw[show ag8=some ((so fE.1,(po fE.1,(fE.2,()))),()) from rfl,bu];simp_all [bu,dE,Ia]<;>rfl
end
section
open Bool renaming false_eq_true → ag, and_true → ax, not_true → ay, not_false → aB
open List renaming length_cons → aF
open Nat renaming le_refl → ae
open Go.RowKit
def rJ (s:fH) (b:Int):Bool:=Dw b&&(match s with
 |[_]=>true
 |[f,_]=>decide (f.1=12)&& !decide (b=40)
 |_=>false)
def DJ:bM->Int->fH×Bool->Nat
 |[],_,_=>0
 |b::l,a,x=>if rJ x.1 (jA b)then 0 else DJ l (a+1) (fQ x.1 x.2 (jA b) a)+1
theorem ajm: ∀(l:bM) (a:Int) (x:fH×Bool),DJ l a x<=l.length
 |[],_,_=>ae _
 |b::l,a,x=>by
  simp only[DJ,aF];split
  ·omega
  ·have:=ajm l (a+1) (fQ x.1 x.2 (jA b) a);omega
theorem arv {s s':fH} (h:md s=md s') (b:Int):rJ s b=rJ s' b:=by
 match s,s' with
 |[],[]=>rfl
 |[_],[_]=>rfl
 |[f,_],[f',_]=>simp_all [md,rJ]
 |_::_::_::_,_::_::_::_=>rfl
 |[],_::_=>simp[md]at h
 |_::_,[]=>simp[md]at h
 |[_],_::_::_=>simp[md]at h
 |_::_::_,[_]=>simp[md]at h
 |[_,_],_::_::_::_=>simp[md]at h
 |_::_::_::_,[_,_]=>simp[md]at h
theorem ajn: ∀(l:bM) (a a':Int) (x x':fH×Bool),md x.1=md x'.1->x.2=x'.2->DJ l a x=DJ l a' x'
 |[],_,_,_,_,_,_=>rfl
 |b::l,a,a',x,x',h1,h2=>by
  have hs:=aAp h1 x.2 (jA b) a a';simp only[DJ,arv h1,<-h2];rw[ajn l (a+1) (a'+1) _ _ hs.1 hs.2]
theorem ayP {s:fH} (hg:iy s) (hb:s.length<1000000) (fr:Bool) (at_:Int) {b:Int} (hby:isByte b):ajP (lo s) fr at_ b=some ((lo s,(fr,(at_,()))),(rJ s b,())):=by
 unfold ajP;rw[arw hby,bu];cases he:Dw b with
 |false=>simp[rJ,he]
 |true=>
  match s with
  |[]=>cases hg
  |[f]=>simp[rJ,he,gY,bF,lo]
  |[f,g]=>
   have h1:fB (lo [f,g]) 1=true:=dN (by omega) (by simp[lo]);have h2:nD (dm 1) (lo [f,g])=true:=oM (by simp[lo,dm]);have h3:dA (lo [f,g]) (0,(0,())) (dm 1)=(f.1,f.2,()):=by rfl
   have h4:(lo [f,g]).length=2:=by simp[lo]
   simp only[gY,bF,h1,h2,h3,h4,cond_true]
   grind [rJ]
  |f::g::h::r=>
   grind [oV,gY,bF,rJ]
theorem art (s:bM) (hs:s.length<=100000): ∀(N:Nat) (i a:Int) (x:fH×Bool),(s.length:Int)-i<N->0<=i->i<=s.length->0<=a->a<=i->iy x.1->(x.1.length:Int)<=a+1->
  ∃o,Kq N s i x.2 a (lo x.1)=some o/\dE o (fun a1=>some (a1.1.1,())) (fun b1=>some (b1.1.1,()))=some (i+DJ (s.drop i.toNat) a x,())
 |0,i,a,x,h,_,_,_,_,_,_=>by omega
 |N+1,i,a,x,h,h0,hi,ha0,ha,hg,hl=>by
  rw[Kq,QV];by_cases e:i<s.length
  ·obtain⟨b,hd,hb⟩:=drop_at h0 e;rw[bI (dZ (b:=bC s) e),bI (dN h0 e),ayP hg (by omega) x.2 a (lL s i),bu,hd,DJ,<-hb];cases hw:rJ x.1 (bT s i)with
   |true=>exact⟨_,rfl,by simp[dE]⟩
   |false=>
    simp only[cond_false,ag,if_false];rw[bI (dN h0 e),agX hg (by omega) x.2 (lL s i) (by omega) (by omega),bu];simp only[pst];rw[bZ (by omega) (by omega)];have hst:=good_step hg x.2 (bT s i) a;obtain⟨o,h1,h2⟩:=art s hs N (i+1) (a+1) (fQ x.1 x.2 (bT s i) a) (by omega) (by omega) (by omega) (by omega) (by omega) hst.1 (by have:=hst.2;omega)
    grind
  ·rw[dC (jZ (b:=bC s) (by rw[bF];omega)),JE (by omega)];exact⟨_,rfl,by simp[dE,DJ]⟩
theorem aHF (s:bM) (hs:s.length<=100000) {i:Int} (h0:0<=i) (hi:i<=s.length):adU s i=some (i+DJ (s.drop i.toNat) i fE,()):=by
 obtain⟨o,h1,h2⟩:=art s hs bH i 0 fE (by have:=OB (n:=s.length) (by omega);omega) h0 hi (by omega) h0 jY (by simp[fE]);unfold adU;rw[dC (jZ h0),dC (jZ (a:=bC s) hi),show([(0,(0,()))]:List nZ)=lo fE.1 from rfl,show(true:Bool)=fE.2 from rfl,h1,bu,h2,ajn _ i 0 fE fE rfl rfl]
theorem awR {s:fH} (hg:iy s):fG (so s) [84]=(match s with|[_]=>true|_=>false):=by
 match s with
 |[]=>cases hg
 |[f]=>have h:f.1=0:=hg;simp[so,fG,h,lets]
 |f::g::r=>
  grind [Dk,fG]
theorem amM {s:fH} (hg:iy s):fG (so s) [84,76]=(match s with|[f,_]=>decide (f.1=12)|_=>false):=by
 match s with
 |[]=>cases hg
 |[f]=>
  simp_all [so,fG]
 |[f,g]=>
  have h:g.1=0:=hg.2.2.2;obtain⟨g0,g1⟩:=F5 hg;have h2:f.1=0\/f.1=1\/f.1=2\/f.1=3\/f.1=4\/f.1=5\/f.1=6\/f.1=7\/f.1=8\/f.1=9\/f.1=10\/f.1=11\/f.1=12\/f.1=13\/f.1=14:=by omega
  rcases h2 with e|e|e|e|e|e|e|e|e|e|e|e|e|e|e<;>simp[so,fG,h,e,lets]
 |f::g::h::r=>
  grind [Dk,fG]
theorem aru (s:bM) (hs:s.length<=100000): ∀(N:Nat) (i:Int) (x:fH×Bool),(s.length:Int)-i<N->0<=i->i<=s.length->iy x.1->(x.1.length:Int)<=i+1->
  ∃o,Nj N s i (so x.1) (po x.1) x.2=some o/\dE o (fun a2=>some ((bC a2.1.1),())) (fun b2=>some (b2.1.1,()))=some (i+DJ (s.drop i.toNat) i x,())
 |0,i,x,h,_,_,_,_=>by omega
 |N+1,i,x,h,h0,hi,hg,hl=>by
  (rewrite [Nj,acL];delta Fe)
  by_cases e:i<s.length
  ·obtain⟨b,hd,hb⟩:=drop_at h0 e;have hst:=good_step hg x.2 (bT s i) i;obtain⟨o,h1,h2⟩:=aru s hs N (i+1) (fQ x.1 x.2 (bT s i) i) (by omega) (by omega) (by omega) hst.1 (by have:=hst.2;omega);rw[bI (dZ (b:=bC s) e),bI (dN h0 e),arx (lL s i),bu,hd,DJ,<-hb,awR hg,amM hg,dN h0 e,agY hg (by omega) x.2 (lL s i) i,bu];simp only[Ia,cond_true];rw[bZ (by omega) (by omega)];have hgo: ∃o,Nj N s (i+1) (so (fQ x.1 x.2 (bT s i) i).1) (po (fQ x.1 x.2 (bT s i) i).1) (fQ x.1 x.2 (bT s i) i).2=some o/\dE o (fun a2=>some ((bC a2.1.1),())) (fun b2=>some (b2.1.1,()))=some (i+((DJ (s.drop (i+1).toNat) (i+1) (fQ x.1 x.2 (bT s i) i)+1:Nat):Int),()):=
    ⟨o,h1,h2.trans (by grind)⟩
   have hst2: ∃o,(some (Sum.inr ((i,()),())):Option (abw.den⊕aca.den))=some o/\dE o (fun a2=>some ((bC a2.1.1),())) (fun b2=>some (b2.1.1,()))=some (i+((0:Nat):Int),()):=⟨_,rfl,by simp[dE]⟩;cases he:Dw (bT s i)with
   |false=>simp_all [rJ]
   |true=>
    generalize hx:x.1=st at*
    match st with
    |[]=>cases hg
    |[f]=>simp_all [rJ]
    |[f,g]=>
     by_cases e12:f.1=12
     ·by_cases e40:bT s i=40
      ·simp only[rJ,he,cond_true,cond_false,gY,e12,e40,decide_true,ay,Bool.and_false,ag,if_false]at hgo ⊢;exact hgo
      ·simp only[rJ,he,cond_true,cond_false,gY,e12,e40,decide_true,decide_false,aB,ax,if_true];exact hst2
     simp_all [rJ]
    |f::g::h::r=>simp_all [rJ]
  ·rw[dC (jZ (b:=bC s) (by rw[bF];omega)),JE (by omega)];exact⟨_,rfl,by simp[dE,DJ,bF];omega⟩
theorem aHG (s:bM) (hs:s.length<=100000) {i:Int} (h0:0<=i) (hi:i<=s.length):aot s i=some (i+DJ (s.drop i.toNat) i fE,()):=by
 obtain⟨o,h1,h2⟩:=aru s hs bH i fE (by have:=OB (n:=s.length) (by omega);omega) h0 hi jY (by simp[fE];omega);unfold aot;rw[show ag8=some ((so fE.1,(po fE.1,(fE.2,()))),()) from rfl,bu];simp_all [bu]
end
end Go.Proofs.YtldbkoijjlaaeaaGreatDoor
