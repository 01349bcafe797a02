/- Parts of the proof, joined and shortened by a program: the plain machine, the functions as it prints them, and the mathematics over them. -/
import Derived.Test.YtihafdllichkeaaGreatDoorZ5
namespace Go.Proofs.YtihafdllichkeaaGreatDoor
open Go.RowKit
set_option linter.unusedVariables false
set_option linter.unusedSimpArgs false
set_option maxRecDepth 100000
set_option maxHeartbeats 4000000
def ahr (x0:List UInt8) (x1:Int) (x2:Int×(List ((List UInt8)×(Bool×Unit)))×(Bool×Unit)):Option ((Int×Int×Int×Bool×Unit)×(Int×(List ((List UInt8)×(Bool×Unit)))×(Bool×Unit))×Unit):=
 bif(dX x2.2.1 0)then
  ai (Yw x0 x1 (af x2.2.1 ([],(false,())) 0)) fun y0=>
   bif(!y0.2.1)then
    bif((aH x2.1 x2.1)&&((dR (.pair .str (.pair .bool .unit)) x2.2.1 x2.2.1)&&((fF x2.2.2.1 x2.2.2.1)&&true)))then
     some ((7,(x1,(y0.1,((!y0.2.1),())))),((x2.1,(x2.2.1,(x2.2.2.1,()))),()))
    else
    none
   else
   bif(bu (ah x2.2.1) 1 (ah x2.2.1))then
    ai (mV (sub x2.2.1 1 (ah x2.2.1))) fun y1=>
     bif(aH x2.1 x2.1)then
      bif(aH (ah y1.1) (ah y1.1))then
       bif(fF (fD 0 (ah y1.1)) (fD 0 (ah y1.1)))then
        bif((aH x2.1 x2.1)&&((fF (fD 0 (ah y1.1)) (fD 0 (ah y1.1)))&&true))then
         some ((7,(x1,(y0.1,((!y0.2.1),())))),((x2.1,(y1.1,((fD 0 (ah y1.1)),()))),()))
        else
        none
       else
       none
      else
      none
     else
     none
   else
   none
 else
 none
def Yd:Sum:=(⟨[.str,.int .i64,.pair (.int .i64) (.pair (.list (.pair .str (.pair .bool .unit))) (.pair .bool .unit))],[(.pair (.int .i64) (.pair (.int .i64) (.pair (.int .i64) (.pair .bool .unit))),false),(.pair (.int .i64) (.pair (.list (.pair .str (.pair .bool .unit))) (.pair .bool .unit)),false)],fun x=>ahr x.1 x.2.1 x.2.2.1⟩:Sum)
noncomputable def alo:Env:=dI Tryz.prog tt 210 [(261,Xm),(262,lJ)] [] []
theorem aaS:bJ alo:=bz tok mixed bV (sg:=[(261,Xm),(262,lJ)]) (aC ⟨(adt),(aC ⟨(qi),aN⟩)⟩) (fn:=Tryz.f210) (c:=(Tryz.f210.body).getD .skip) (by kernel_rfl) (by kernel_rfl) (aS (fun _=>rfl) (fun _=>rfl) _) bW bC
theorem aat:bD Tryz.prog 210 Yd:=ed aaS (by decide) fun x=>by kernel_rfl
def Ul (x0:Int×Int×Int×Int×Bool×Unit):Option (Bool×Unit):=
 bif(aH x0.1 12)then
  some ((aH x0.2.2.1 (aG .i64 x0.2.1 1)),())
 else
 some (false,())
def XJ:Sum:=(⟨[.pair (.int .i64) (.pair (.int .i64) (.pair (.int .i64) (.pair (.int .i64) (.pair .bool .unit))))],[(.bool,false)],fun x=>Ul x.1⟩:Sum)
noncomputable def amE:Env:=dI Tryz.prog tt 222 [] [] []
theorem aaJ:bJ amE:=bz tok mixed bV (sg:=[]) aN (fn:=Tryz.f222) (c:=(Tryz.f222.body).getD .skip) (by kernel_rfl) (by kernel_rfl) (aS (fun _=>rfl) (fun _=>rfl) _) bW bC
theorem aaZ:bD Tryz.prog 222 XJ:=ed aaJ (by decide) fun x=>by kernel_rfl
def qF (x0:Int×Int×Int×Int×Bool×Unit):Option (Int×Int×Unit):=
 bif(aH x0.1 1)then
  bif(aH x0.1 1)then
   bif x0.2.2.2.2.1 then
    some ((aG .i64 x0.2.1 2),((iK (ag .i64 x0.2.2.1 0) (aG .i64 x0.2.1 2)),()))
   else
   some ((aG .i64 x0.2.1 2),((iK (ag .i64 x0.2.2.1 1) (aG .i64 x0.2.1 2)),()))
  else
  bif(aH x0.1 9)then
   bif x0.2.2.2.2.1 then
    some ((aG .i64 x0.2.1 3),((iK (ag .i64 x0.2.2.1 0) (aG .i64 x0.2.1 3)),()))
   else
   some ((aG .i64 x0.2.1 3),((iK (ag .i64 x0.2.2.1 2) (aG .i64 x0.2.1 3)),()))
  else
  bif(aH x0.1 13)then
   bif(aH x0.1 13)then
    bif x0.2.2.2.2.1 then
     some ((aG .i64 x0.2.1 1),((iK (ag .i64 x0.2.2.1 0) (aG .i64 x0.2.1 1)),()))
    else
    some ((aG .i64 x0.2.1 1),((iK (ag .i64 x0.2.2.1 0) (aG .i64 x0.2.1 1)),()))
   else
   bif x0.2.2.2.2.1 then
    some ((aG .i64 x0.2.1 1),((iK (ag .i64 x0.2.2.1 0) (aG .i64 x0.2.1 1)),()))
   else
   some ((aG .i64 x0.2.1 1),((iK (ag .i64 x0.2.2.1 1) (aG .i64 x0.2.1 1)),()))
  else
  bif(aH x0.1 12)then
   bif x0.2.2.2.2.1 then
    some ((aG .i64 x0.2.1 1),((iK (ag .i64 x0.2.2.1 0) (aG .i64 x0.2.1 1)),()))
   else
   some ((aG .i64 x0.2.1 1),((iK (ag .i64 x0.2.2.1 0) (aG .i64 x0.2.1 1)),()))
  else
  bif x0.2.2.2.2.1 then
   some ((aG .i64 x0.2.1 1),((iK (ag .i64 x0.2.2.1 0) (aG .i64 x0.2.1 1)),()))
  else
  some ((aG .i64 x0.2.1 1),((iK (ag .i64 x0.2.2.1 1) (aG .i64 x0.2.1 1)),()))
 else
 bif(aH x0.1 7)then
  bif(aH x0.1 7)then
   bif x0.2.2.2.2.1 then
    some ((aG .i64 x0.2.1 2),((iK (ag .i64 x0.2.2.1 0) (aG .i64 x0.2.1 2)),()))
   else
   some ((aG .i64 x0.2.1 2),((iK (ag .i64 x0.2.2.1 1) (aG .i64 x0.2.1 2)),()))
  else
  bif(aH x0.1 9)then
   bif x0.2.2.2.2.1 then
    some ((aG .i64 x0.2.1 3),((iK (ag .i64 x0.2.2.1 0) (aG .i64 x0.2.1 3)),()))
   else
   some ((aG .i64 x0.2.1 3),((iK (ag .i64 x0.2.2.1 2) (aG .i64 x0.2.1 3)),()))
  else
  bif(aH x0.1 13)then
   bif(aH x0.1 13)then
    bif x0.2.2.2.2.1 then
     some ((aG .i64 x0.2.1 1),((iK (ag .i64 x0.2.2.1 0) (aG .i64 x0.2.1 1)),()))
    else
    some ((aG .i64 x0.2.1 1),((iK (ag .i64 x0.2.2.1 0) (aG .i64 x0.2.1 1)),()))
   else
   bif x0.2.2.2.2.1 then
    some ((aG .i64 x0.2.1 1),((iK (ag .i64 x0.2.2.1 0) (aG .i64 x0.2.1 1)),()))
   else
   some ((aG .i64 x0.2.1 1),((iK (ag .i64 x0.2.2.1 1) (aG .i64 x0.2.1 1)),()))
  else
  bif(aH x0.1 12)then
   bif x0.2.2.2.2.1 then
    some ((aG .i64 x0.2.1 1),((iK (ag .i64 x0.2.2.1 0) (aG .i64 x0.2.1 1)),()))
   else
   some ((aG .i64 x0.2.1 1),((iK (ag .i64 x0.2.2.1 0) (aG .i64 x0.2.1 1)),()))
  else
  bif x0.2.2.2.2.1 then
   some ((aG .i64 x0.2.1 1),((iK (ag .i64 x0.2.2.1 0) (aG .i64 x0.2.1 1)),()))
  else
  some ((aG .i64 x0.2.1 1),((iK (ag .i64 x0.2.2.1 1) (aG .i64 x0.2.1 1)),()))
 else
 bif(aH x0.1 8)then
  bif x0.2.2.2.2.1 then
   some ((aG .i64 x0.2.1 2),((iK (ag .i64 x0.2.2.1 0) (aG .i64 x0.2.1 2)),()))
  else
  some ((aG .i64 x0.2.1 2),((iK (ag .i64 x0.2.2.1 1) (aG .i64 x0.2.1 2)),()))
 else
 bif(aH x0.1 9)then
  bif x0.2.2.2.2.1 then
   some ((aG .i64 x0.2.1 3),((iK (ag .i64 x0.2.2.1 0) (aG .i64 x0.2.1 3)),()))
  else
  some ((aG .i64 x0.2.1 3),((iK (ag .i64 x0.2.2.1 2) (aG .i64 x0.2.1 3)),()))
 else
 bif(aH x0.1 13)then
  bif(aH x0.1 13)then
   bif x0.2.2.2.2.1 then
    some ((aG .i64 x0.2.1 1),((iK (ag .i64 x0.2.2.1 0) (aG .i64 x0.2.1 1)),()))
   else
   some ((aG .i64 x0.2.1 1),((iK (ag .i64 x0.2.2.1 0) (aG .i64 x0.2.1 1)),()))
  else
  bif x0.2.2.2.2.1 then
   some ((aG .i64 x0.2.1 1),((iK (ag .i64 x0.2.2.1 0) (aG .i64 x0.2.1 1)),()))
  else
  some ((aG .i64 x0.2.1 1),((iK (ag .i64 x0.2.2.1 1) (aG .i64 x0.2.1 1)),()))
 else
 bif(aH x0.1 12)then
  bif x0.2.2.2.2.1 then
   some ((aG .i64 x0.2.1 1),((iK (ag .i64 x0.2.2.1 0) (aG .i64 x0.2.1 1)),()))
  else
  some ((aG .i64 x0.2.1 1),((iK (ag .i64 x0.2.2.1 0) (aG .i64 x0.2.1 1)),()))
 else
 bif x0.2.2.2.2.1 then
  some ((aG .i64 x0.2.1 1),((iK (ag .i64 x0.2.2.1 0) (aG .i64 x0.2.1 1)),()))
 else
 some ((aG .i64 x0.2.1 1),((iK (ag .i64 x0.2.2.1 1) (aG .i64 x0.2.1 1)),()))
def Xc:Sum:=(⟨[.pair (.int .i64) (.pair (.int .i64) (.pair (.int .i64) (.pair (.int .i64) (.pair .bool .unit))))],[(.int .i64,false),(.int .i64,false)],fun x=>qF x.1⟩:Sum)
noncomputable def anJ:Env:=dI Tryz.prog tt 280 [] [] []
theorem abP:bJ anJ:=bz tok mixed bV (sg:=[]) aN (fn:=Tryz.f280) (c:=(Tryz.f280.body).getD .skip) (by kernel_rfl) (by kernel_rfl) (aS (fun _=>rfl) (fun _=>rfl) _) bW bC
theorem abA:bD Tryz.prog 280 Xc:=ed abP (by decide) fun x=>by kernel_rfl
noncomputable def Rn:Code:=(Tryz.f270.body).getD .skip
noncomputable def xR:Code:=(Tryz.f159.body).getD .skip
noncomputable def xE:Code:=(Tryz.f219.body).getD .skip
noncomputable def wK:Code:=(Tryz.f224.body).getD .skip
noncomputable def Hz:Code:=cA (cA (cB (cA (cB (cB (xR))))))
noncomputable def Ig:Code:=cA (cA (cB (cA (cB (cB (cB (cA (cB (xE)))))))))
noncomputable def IE:Code:=cA (cA (cB (cA (cB (cB (cB (cB (wK))))))))
def Hl:dB:=⟨[3,15,16,17,160000003],[],[3],[],[2],[]⟩
def Hy:dB:=⟨[1,2,3,4,5,220000004],[(300000300,.pair (.list .unit) (.int .u8))],[4],[],[],[]⟩
def IB:dB:=⟨[0,2,8,9,10,11,225000005],[(9,(.int .u8))],[2,9,10],[],[6],[]⟩
def aje:dB:=⟨[2,3],[],[],[],[],[]⟩
def aiG:dB:=⟨[0,2,3],[],[],[],[],[]⟩
def ajG:dB:=⟨[3,4],[],[],[],[],[]⟩
def aiV:dB:=⟨[3],[],[],[],[],[]⟩
def Vk:dB:=⟨[0,1],[],[],[],[],[]⟩
def Tt:dB:=⟨[1,2,3,4,5],[],[],[],[],[]⟩
def Nq:dB:=⟨[1,2,3,4,5,6],[],[],[],[],[]⟩
def Ot:dB:=⟨[1,2,3,4,5,8,9],[],[],[],[],[]⟩
def QE:dB:=⟨[1,2,3,4,5,6],[],[],[],[],[]⟩
def Po:dB:=⟨[1,2,3,4,5,6],[],[],[],[],[]⟩
def Qe:dB:=⟨[4],[],[],[],[],[]⟩
def TR:dB:=⟨[1,3],[],[],[],[],[]⟩
def Ue:dB:=⟨[0,2,8,9,10,11],[],[],[],[],[]⟩
def Rf:dB:=⟨[0,2,8,9,10,12],[],[],[],[],[]⟩
def TV:dB:=⟨[0,2,8,9,12],[],[],[],[],[]⟩
def Rz:dB:=⟨[0,2,8,12],[],[],[],[],[]⟩
def Nu:dB:=⟨[2,9],[],[],[],[],[]⟩
def uw:SQ:=⟨us [.u,.u,.u,.ptr 2000011 0,.u,.u,.u,.u,.u,.u,.u,.u,.u,.u,.u,.v (.list (.pair (.int .i64) (.pair (.int .i64) (.pair (.int .i64) (.pair (.int .i64) (.pair .bool .unit)))))),.v (.int .i64),.v (.int .i64)] 14,[us [.v .str,.u,.v .str,.ptr 1000003 0,.u,.v .str] 7,[]],[.box 2000011 268 [.v .str,.v (.list (.pair (.int .i64) (.pair (.int .i64) (.pair (.int .i64) (.pair (.int .i64) (.pair .bool .unit)))))),.mpv 2000009],.mp 2000009 .i64 .i64,.box 1000003 132 [.slf 1000003,.slc 1500003],.arr 1500003 (.int .u8)]⟩
def xh:SQ:=⟨us [.u,.u,.u,.ptr 2000011 0] 28,[us [.v .str,.u,.v .str,.ptr 1000003 0,.u,.v .str] 7,[]],[.box 2000011 268 [.v .str,.v (.list (.pair (.int .i64) (.pair (.int .i64) (.pair (.int .i64) (.pair (.int .i64) (.pair .bool .unit)))))),.mpv 2000009],.mp 2000009 .i64 .i64,.box 1000003 132 [.slf 1000003,.slc 1500003],.arr 1500003 (.int .u8)]⟩
def xJ:SQ:=⟨us [] 112,[us [.u,.u,.v .str,.ptr 1000003 0] 9,[.yld 1700008],[]],[.box 2000011 268 [.v .str,.v (.list (.pair (.int .i64) (.pair (.int .i64) (.pair (.int .i64) (.pair (.int .i64) (.pair .bool .unit)))))),.mpv 2000009],.mp 2000009 .i64 .i64,.box 2000001 218 [.ptr 2000011 0],.lp 1700008 270 (us [.u,.u,.v .str,.ptr 1000003 0] 9) [8] 4 0 none,.arr 1500003 (.int .u8),.box 1000003 132 [.slf 1000003,.slc 1500003]]⟩
def rD {γ:Type} (rec:(List (Int×Int×Int×Int×Bool×Unit))->Int->Int->(List UInt8)->(List UInt8)->(List UInt8)->(List UInt8)->(List (Int×Int×Int×Int×Bool×Unit))->(List (Int×Int))->(List (Int))->Option γ) (kE:(List UInt8)->(List UInt8)->(List UInt8)->(List UInt8)->(List (Int×Int×Int×Int×Bool×Unit))->(List (Int×Int))->(List (Int))->Option γ) (kR:(List UInt8)->(List UInt8)->(List (Int×Int×Int×Int×Bool×Unit))->(List (Int×Int))->(List UInt8)->(List (Int))->Option γ) (v0:List (Int×Int×Int×Int×Bool×Unit)) (v1:Int) (v2:Int) (v3:List UInt8) (v4:List UInt8) (v5:List UInt8) (v6:List UInt8) (v7:List (Int×Int×Int×Int×Bool×Unit)) (v8:List (Int×Int)) (v9:List (Int)):Option γ:=
 bif(fD v2 v1)then
  bif(dX v0 v2)then
   rec v0 v1 (aG .i64 v2 1) v3 v4 v5 v6 v7 (oK v8 (af v0 (0,(0,(0,(0,(false,()))))) v2).2.1 (aG .i64 v2 1)) v9
  else
  none
 else
 kE v3 v4 v5 v6 v7 v8 v9
def jZ:Nat->(List (Int×Int×Int×Int×Bool×Unit))->Int->Int->(List UInt8)->(List UInt8)->(List UInt8)->(List UInt8)->(List (Int×Int×Int×Int×Bool×Unit))->(List (Int×Int))->(List (Int))->Option (xh.den⊕xJ.den)
 |0,_,_,_,_,_,_,_,_,_,_=>none
 |n+1,v0,v1,v2,v3,v4,v5,v6,v7,v8,v9=>rD (jZ n) (fun e0 e1 e2 e3 e4 e5 e6=>some (.inl ((),((e0,e1,e2,()),(),()),((e3,e4,()),e5,(),e6,())))) (fun r0 r1 r2 r3 r4 r5=>some (.inr ((),((r0,()),(),(),()),((r1,r2,()),r3,(),(r4,()),r5,(),())))) v0 v1 v2 v3 v4 v5 v6 v7 v8 v9
noncomputable def Et:bG:=gQ Hl uw xh xJ (.exit 0) (fun v=>jZ aO v.1.1 v.1.2.1 v.1.2.2.1 v.2.1.1.1 v.2.1.1.2.1 v.2.1.1.2.2.1 v.2.2.1.1 v.2.2.1.2.1 v.2.2.2.1 v.2.2.2.2.2.1) 6
def uH:SQ:=⟨us [.ptr 2000011 0,.u,.yld 1700008,.u,.u,.u,.u,.u,.v (.int .i64),.slc 4800009,.v .bool,.v (.int .i64)] 83,[[.u,.ptr 2000001 0,.ptr 3000002 0,.ptr 3000003 0,.fn 220 [(3000003,0),(3000002,0)],.v (.int .i64),.ptr 3000006 0,.u,.u,.u,.u,.u,.u,.u,.u,.u,.u,.u,.u,.u,.u,.u,.u,.u,.u,.u,.u,.u,.u,.u,.u,.u,.u,.u,.u,.u,.u,.u,.u,.u,.u,.u,.u,.u,.u,.u,.u,.u,.u,.u,.u,.u,.u,.u,.u,.u,.u,.u,.u,.u,.u,.u,.u,.u,.u,.u,.u,.u,.u,.u,.u,.u,.u,.u,.u,.u,.u,.u,.u,.u,.u,.u,.u,.u,.u,.u,.u,.u,.u,.u,.u,.u,.u,.u,.u,.u,.u,.u,.u,.u,.u,.fn 220 [(3000003,0),(3000002,0)],.v .bool,.v .bool,.ptr 2000011 0,.v (.pair (.int .i64) (.pair (.int .i64) (.pair (.int .i64) (.pair (.int .i64) (.pair .bool .unit))))),.yld 1700008,.u,.u,.u,.u,.u],us [.u,.u,.v .str,.ptr 1000003 0] 9,[.yld 1700008],[]],[.arr 4800009 (.int .u8),.box 3000006 215 [.v (.int .i64),.v (.int .i64),.v (.int .i64),.v (.int .i64),.v .bool],.arr 3500003 (.int .u8),.box 3000003 111 [.nils],.box 3000002 269 [.yld 1700008],.box 2000011 268 [.v .str,.v (.list (.pair (.int .i64) (.pair (.int .i64) (.pair (.int .i64) (.pair (.int .i64) (.pair .bool .unit)))))),.mpv 2000009],.mp 2000009 .i64 .i64,.box 2000001 218 [.ptr 2000011 0],.lp 1700008 270 (us [.u,.u,.v .str,.ptr 1000003 0] 9) [8] 4 0 none,.arr 1500003 (.int .u8),.box 1000003 132 [.slf 1000003,.slc 1500003]]⟩
def yc:SQ:=⟨us [.u,.u,.yld 1700008,.u,.u,.u,.u,.u,.u,.slc 4800009,.v .bool] 84,[[.u,.ptr 2000001 0,.ptr 3000002 0,.ptr 3000003 0,.fn 220 [(3000003,0),(3000002,0)],.v (.int .i64),.ptr 3000006 0,.u,.u,.u,.u,.u,.u,.u,.u,.u,.u,.u,.u,.u,.u,.u,.u,.u,.u,.u,.u,.u,.u,.u,.u,.u,.u,.u,.u,.u,.u,.u,.u,.u,.u,.u,.u,.u,.u,.u,.u,.u,.u,.u,.u,.u,.u,.u,.u,.u,.u,.u,.u,.u,.u,.u,.u,.u,.u,.u,.u,.u,.u,.u,.u,.u,.u,.u,.u,.u,.u,.u,.u,.u,.u,.u,.u,.u,.u,.u,.u,.u,.u,.u,.u,.u,.u,.u,.u,.u,.u,.u,.u,.u,.u,.fn 220 [(3000003,0),(3000002,0)],.v .bool,.v .bool,.ptr 2000011 0,.v (.pair (.int .i64) (.pair (.int .i64) (.pair (.int .i64) (.pair (.int .i64) (.pair .bool .unit))))),.yld 1700008,.u,.u,.u,.u,.u],us [.u,.u,.v .str,.ptr 1000003 0] 9,[.yld 1700008],[]],[.arr 4800009 (.int .u8),.box 3000006 215 [.v (.int .i64),.v (.int .i64),.v (.int .i64),.v (.int .i64),.v .bool],.arr 3500003 (.int .u8),.box 3000003 111 [.nils],.box 3000002 269 [.yld 1700008],.box 2000011 268 [.v .str,.v (.list (.pair (.int .i64) (.pair (.int .i64) (.pair (.int .i64) (.pair (.int .i64) (.pair .bool .unit)))))),.mpv 2000009],.mp 2000009 .i64 .i64,.box 2000001 218 [.ptr 2000011 0],.lp 1700008 270 (us [.u,.u,.v .str,.ptr 1000003 0] 9) [8] 4 0 none,.arr 1500003 (.int .u8),.box 1000003 132 [.slf 1000003,.slc 1500003]]⟩
def x9:SQ:=⟨us [] 112,[us [.u,.u,.v .str,.ptr 1000003 0] 9,[.yld 1700008],[]],[.box 2000011 268 [.v .str,.v (.list (.pair (.int .i64) (.pair (.int .i64) (.pair (.int .i64) (.pair (.int .i64) (.pair .bool .unit)))))),.mpv 2000009],.mp 2000009 .i64 .i64,.box 2000001 218 [.ptr 2000011 0],.lp 1700008 270 (us [.u,.u,.v .str,.ptr 1000003 0] 9) [8] 4 0 none,.arr 1500003 (.int .u8),.box 1000003 132 [.slf 1000003,.slc 1500003]]⟩
def qJ {γ:Type} (rec:Int->Bool->Int->Int->Bool->Bool->(Int×Int×Int×Int×Bool×Unit)->(List UInt8)->(List (Int))->Int->Int->Int->Int->Bool->(List (Int))->(List UInt8)->(List (Int×Int×Int×Int×Bool×Unit))->(List (Int×Int))->(List UInt8)->(List (Int))->Option γ) (kE:Bool->Int->Bool->Bool->(Int×Int×Int×Int×Bool×Unit)->(List UInt8)->(List (Int))->Int->Int->Int->Int->Bool->(List (Int))->(List UInt8)->(List (Int×Int×Int×Int×Bool×Unit))->(List (Int×Int))->(List UInt8)->(List (Int))->Option γ) (kR:(List UInt8)->(List UInt8)->(List (Int×Int×Int×Int×Bool×Unit))->(List (Int×Int))->(List UInt8)->(List (Int))->Option γ) (v0:Int) (v1:Bool) (v2:Int) (v3:Int) (v4:Bool) (v5:Bool) (v6:Int×Int×Int×Int×Bool×Unit) (v7:List UInt8) (v8:List (Int)) (v9:Int) (v10:Int) (v11:Int) (v12:Int) (v13:Bool) (v14:List (Int)) (v15:List UInt8) (v16:List (Int×Int×Int×Int×Bool×Unit)) (v17:List (Int×Int)) (v18:List UInt8) (v19:List (Int)):Option γ:=
 bif(fD v2 v0)then
  bif(aH (ax v17 v2) 0)then
   bif(dX v15 v2)then
    bif(aZ (az v8 [(aI v15 v2)]) 1)then
     rec v0 v1 (aG .i64 v2 1) v3 v4 v5 v6 v7 (az v8 [(aI v15 v2)]) v9 v10 v11 v12 v13 v14 v15 v16 v17 v18 v19
    else
    none
   else
   none
  else
  bif(dX v16 (ag .i64 (ax v17 v2) 1))then
   ai (Ul ((af v16 (0,(0,(0,(0,(false,()))))) (ag .i64 (ax v17 v2) 1)).1,((af v16 (0,(0,(0,(0,(false,()))))) (ag .i64 (ax v17 v2) 1)).2.1,((af v16 (0,(0,(0,(0,(false,()))))) (ag .i64 (ax v17 v2) 1)).2.2.1,((af v16 (0,(0,(0,(0,(false,()))))) (ag .i64 (ax v17 v2) 1)).2.2.2.1,((af v16 (0,(0,(0,(0,(false,()))))) (ag .i64 (ax v17 v2) 1)).2.2.2.2.1,())))))) fun y0=>
    bif y0.1 then
     bif(dX v15 v2)then
      bif(aZ (az v8 [(aI v15 v2)]) 1)then
       rec v0 v1 (aG .i64 v2 1) v3 v4 v5 v6 v7 (az v8 [(aI v15 v2)]) v9 v10 v11 v12 v13 v14 v15 v16 v17 v18 v19
      else
      none
     else
     none
    else
    bif(aH (af v16 (0,(0,(0,(0,(false,()))))) (ag .i64 (ax v17 v2) 1)).1 13)then
     bif(fD (ag .i64 (af v16 (0,(0,(0,(0,(false,()))))) (ag .i64 (ax v17 v2) 1)).2.2.1 (af v16 (0,(0,(0,(0,(false,()))))) (ag .i64 (ax v17 v2) 1)).2.1) 2)then
      bif(aZ (az v8 (ak [])) 1)then
       rec v0 v1 (af v16 (0,(0,(0,(0,(false,()))))) (ag .i64 (ax v17 v2) 1)).2.2.1 v3 v4 v5 v6 v7 (az v8 (ak [])) v9 v10 v11 v12 v13 v14 v15 v16 v17 v18 v19
      else
      none
     else
     bif(dX v15 (aG .i64 (af v16 (0,(0,(0,(0,(false,()))))) (ag .i64 (ax v17 v2) 1)).2.1 1))then
      bif(aH (aI v15 (aG .i64 (af v16 (0,(0,(0,(0,(false,()))))) (ag .i64 (ax v17 v2) 1)).2.1 1)) 36)then
       bif(aH (aI v15 (aG .i64 (af v16 (0,(0,(0,(0,(false,()))))) (ag .i64 (ax v17 v2) 1)).2.1 1)) 36)then
        bif(aZ (az v8 (ak (ofBytes [(aI v15 (aG .i64 (af v16 (0,(0,(0,(0,(false,()))))) (ag .i64 (ax v17 v2) 1)).2.1 1))]))) 1)then
         rec v0 v1 (af v16 (0,(0,(0,(0,(false,()))))) (ag .i64 (ax v17 v2) 1)).2.2.1 v3 v4 v5 v6 v7 (az v8 (ak (ofBytes [(aI v15 (aG .i64 (af v16 (0,(0,(0,(0,(false,()))))) (ag .i64 (ax v17 v2) 1)).2.1 1))]))) v9 v10 v11 v12 v13 v14 v15 v16 v17 v18 v19
        else
        none
       else
       bif(aH (aI v15 (aG .i64 (af v16 (0,(0,(0,(0,(false,()))))) (ag .i64 (ax v17 v2) 1)).2.1 1)) 10)then
        bif(aZ (az v8 (ak [])) 1)then
         rec v0 v1 (af v16 (0,(0,(0,(0,(false,()))))) (ag .i64 (ax v17 v2) 1)).2.2.1 v3 v4 v5 v6 v7 (az v8 (ak [])) v9 v10 v11 v12 v13 v14 v15 v16 v17 v18 v19
        else
        none
       else
       bif(bu (ah v15) (af v16 (0,(0,(0,(0,(false,()))))) (ag .i64 (ax v17 v2) 1)).2.1 (af v16 (0,(0,(0,(0,(false,()))))) (ag .i64 (ax v17 v2) 1)).2.2.1)then
        bif(aZ (az v8 (ak (sub v15 (af v16 (0,(0,(0,(0,(false,()))))) (ag .i64 (ax v17 v2) 1)).2.1 (af v16 (0,(0,(0,(0,(false,()))))) (ag .i64 (ax v17 v2) 1)).2.2.1))) 1)then
         rec v0 v1 (af v16 (0,(0,(0,(0,(false,()))))) (ag .i64 (ax v17 v2) 1)).2.2.1 v3 v4 v5 v6 v7 (az v8 (ak (sub v15 (af v16 (0,(0,(0,(0,(false,()))))) (ag .i64 (ax v17 v2) 1)).2.1 (af v16 (0,(0,(0,(0,(false,()))))) (ag .i64 (ax v17 v2) 1)).2.2.1))) v9 v10 v11 v12 v13 v14 v15 v16 v17 v18 v19
        else
        none
       else
       none
      else
      bif(aH (aI v15 (aG .i64 (af v16 (0,(0,(0,(0,(false,()))))) (ag .i64 (ax v17 v2) 1)).2.1 1)) 96)then
       bif(aH (aI v15 (aG .i64 (af v16 (0,(0,(0,(0,(false,()))))) (ag .i64 (ax v17 v2) 1)).2.1 1)) 96)then
        bif(aZ (az v8 (ak (ofBytes [(aI v15 (aG .i64 (af v16 (0,(0,(0,(0,(false,()))))) (ag .i64 (ax v17 v2) 1)).2.1 1))]))) 1)then
         rec v0 v1 (af v16 (0,(0,(0,(0,(false,()))))) (ag .i64 (ax v17 v2) 1)).2.2.1 v3 v4 v5 v6 v7 (az v8 (ak (ofBytes [(aI v15 (aG .i64 (af v16 (0,(0,(0,(0,(false,()))))) (ag .i64 (ax v17 v2) 1)).2.1 1))]))) v9 v10 v11 v12 v13 v14 v15 v16 v17 v18 v19
        else
        none
       else
       bif(aH (aI v15 (aG .i64 (af v16 (0,(0,(0,(0,(false,()))))) (ag .i64 (ax v17 v2) 1)).2.1 1)) 10)then
        bif(aZ (az v8 (ak [])) 1)then
         rec v0 v1 (af v16 (0,(0,(0,(0,(false,()))))) (ag .i64 (ax v17 v2) 1)).2.2.1 v3 v4 v5 v6 v7 (az v8 (ak [])) v9 v10 v11 v12 v13 v14 v15 v16 v17 v18 v19
        else
        none
       else
       bif(bu (ah v15) (af v16 (0,(0,(0,(0,(false,()))))) (ag .i64 (ax v17 v2) 1)).2.1 (af v16 (0,(0,(0,(0,(false,()))))) (ag .i64 (ax v17 v2) 1)).2.2.1)then
        bif(aZ (az v8 (ak (sub v15 (af v16 (0,(0,(0,(0,(false,()))))) (ag .i64 (ax v17 v2) 1)).2.1 (af v16 (0,(0,(0,(0,(false,()))))) (ag .i64 (ax v17 v2) 1)).2.2.1))) 1)then
         rec v0 v1 (af v16 (0,(0,(0,(0,(false,()))))) (ag .i64 (ax v17 v2) 1)).2.2.1 v3 v4 v5 v6 v7 (az v8 (ak (sub v15 (af v16 (0,(0,(0,(0,(false,()))))) (ag .i64 (ax v17 v2) 1)).2.1 (af v16 (0,(0,(0,(0,(false,()))))) (ag .i64 (ax v17 v2) 1)).2.2.1))) v9 v10 v11 v12 v13 v14 v15 v16 v17 v18 v19
        else
        none
       else
       none
      else
      bif(aH (aI v15 (aG .i64 (af v16 (0,(0,(0,(0,(false,()))))) (ag .i64 (ax v17 v2) 1)).2.1 1)) 34)then
       bif(aH (aI v15 (aG .i64 (af v16 (0,(0,(0,(0,(false,()))))) (ag .i64 (ax v17 v2) 1)).2.1 1)) 34)then
        bif(aZ (az v8 (ak (ofBytes [(aI v15 (aG .i64 (af v16 (0,(0,(0,(0,(false,()))))) (ag .i64 (ax v17 v2) 1)).2.1 1))]))) 1)then
         rec v0 v1 (af v16 (0,(0,(0,(0,(false,()))))) (ag .i64 (ax v17 v2) 1)).2.2.1 v3 v4 v5 v6 v7 (az v8 (ak (ofBytes [(aI v15 (aG .i64 (af v16 (0,(0,(0,(0,(false,()))))) (ag .i64 (ax v17 v2) 1)).2.1 1))]))) v9 v10 v11 v12 v13 v14 v15 v16 v17 v18 v19
        else
        none
       else
       bif(aH (aI v15 (aG .i64 (af v16 (0,(0,(0,(0,(false,()))))) (ag .i64 (ax v17 v2) 1)).2.1 1)) 10)then
        bif(aZ (az v8 (ak [])) 1)then
         rec v0 v1 (af v16 (0,(0,(0,(0,(false,()))))) (ag .i64 (ax v17 v2) 1)).2.2.1 v3 v4 v5 v6 v7 (az v8 (ak [])) v9 v10 v11 v12 v13 v14 v15 v16 v17 v18 v19
        else
        none
       else
       bif(bu (ah v15) (af v16 (0,(0,(0,(0,(false,()))))) (ag .i64 (ax v17 v2) 1)).2.1 (af v16 (0,(0,(0,(0,(false,()))))) (ag .i64 (ax v17 v2) 1)).2.2.1)then
        bif(aZ (az v8 (ak (sub v15 (af v16 (0,(0,(0,(0,(false,()))))) (ag .i64 (ax v17 v2) 1)).2.1 (af v16 (0,(0,(0,(0,(false,()))))) (ag .i64 (ax v17 v2) 1)).2.2.1))) 1)then
         rec v0 v1 (af v16 (0,(0,(0,(0,(false,()))))) (ag .i64 (ax v17 v2) 1)).2.2.1 v3 v4 v5 v6 v7 (az v8 (ak (sub v15 (af v16 (0,(0,(0,(0,(false,()))))) (ag .i64 (ax v17 v2) 1)).2.1 (af v16 (0,(0,(0,(0,(false,()))))) (ag .i64 (ax v17 v2) 1)).2.2.1))) v9 v10 v11 v12 v13 v14 v15 v16 v17 v18 v19
        else
        none
       else
       none
      else
      bif(aH (aI v15 (aG .i64 (af v16 (0,(0,(0,(0,(false,()))))) (ag .i64 (ax v17 v2) 1)).2.1 1)) 92)then
       bif(aZ (az v8 (ak (ofBytes [(aI v15 (aG .i64 (af v16 (0,(0,(0,(0,(false,()))))) (ag .i64 (ax v17 v2) 1)).2.1 1))]))) 1)then
        rec v0 v1 (af v16 (0,(0,(0,(0,(false,()))))) (ag .i64 (ax v17 v2) 1)).2.2.1 v3 v4 v5 v6 v7 (az v8 (ak (ofBytes [(aI v15 (aG .i64 (af v16 (0,(0,(0,(0,(false,()))))) (ag .i64 (ax v17 v2) 1)).2.1 1))]))) v9 v10 v11 v12 v13 v14 v15 v16 v17 v18 v19
       else
       none
      else
      bif(aH (aI v15 (aG .i64 (af v16 (0,(0,(0,(0,(false,()))))) (ag .i64 (ax v17 v2) 1)).2.1 1)) 10)then
       bif(aZ (az v8 (ak [])) 1)then
        rec v0 v1 (af v16 (0,(0,(0,(0,(false,()))))) (ag .i64 (ax v17 v2) 1)).2.2.1 v3 v4 v5 v6 v7 (az v8 (ak [])) v9 v10 v11 v12 v13 v14 v15 v16 v17 v18 v19
       else
       none
      else
      bif(bu (ah v15) (af v16 (0,(0,(0,(0,(false,()))))) (ag .i64 (ax v17 v2) 1)).2.1 (af v16 (0,(0,(0,(0,(false,()))))) (ag .i64 (ax v17 v2) 1)).2.2.1)then
       bif(aZ (az v8 (ak (sub v15 (af v16 (0,(0,(0,(0,(false,()))))) (ag .i64 (ax v17 v2) 1)).2.1 (af v16 (0,(0,(0,(0,(false,()))))) (ag .i64 (ax v17 v2) 1)).2.2.1))) 1)then
        rec v0 v1 (af v16 (0,(0,(0,(0,(false,()))))) (ag .i64 (ax v17 v2) 1)).2.2.1 v3 v4 v5 v6 v7 (az v8 (ak (sub v15 (af v16 (0,(0,(0,(0,(false,()))))) (ag .i64 (ax v17 v2) 1)).2.1 (af v16 (0,(0,(0,(0,(false,()))))) (ag .i64 (ax v17 v2) 1)).2.2.1))) v9 v10 v11 v12 v13 v14 v15 v16 v17 v18 v19
       else
       none
      else
      none
     else
     none
    else
    bif(fD 0 (ah v8))then
     bif(aZ (az v19 (ak (ofBytes v8))) 1)then
      bif(bu (ah v15) (af v16 (0,(0,(0,(0,(false,()))))) (ag .i64 (ax v17 v2) 1)).2.1 (af v16 (0,(0,(0,(0,(false,()))))) (ag .i64 (ax v17 v2) 1)).2.2.1)then
       bif(aZ (az (az v19 (ak (ofBytes v8))) (ak (sub v15 (af v16 (0,(0,(0,(0,(false,()))))) (ag .i64 (ax v17 v2) 1)).2.1 (af v16 (0,(0,(0,(0,(false,()))))) (ag .i64 (ax v17 v2) 1)).2.2.1))) 1)then
        rec v0 true (af v16 (0,(0,(0,(0,(false,()))))) (ag .i64 (ax v17 v2) 1)).2.2.1 v3 v4 v5 v6 v7 [] v9 v10 v11 v12 v13 v14 v15 v16 v17 v18 (az (az v19 (ak (ofBytes v8))) (ak (sub v15 (af v16 (0,(0,(0,(0,(false,()))))) (ag .i64 (ax v17 v2) 1)).2.1 (af v16 (0,(0,(0,(0,(false,()))))) (ag .i64 (ax v17 v2) 1)).2.2.1)))
       else
       none
      else
      none
     else
     none
    else
    bif(bu (ah v15) (af v16 (0,(0,(0,(0,(false,()))))) (ag .i64 (ax v17 v2) 1)).2.1 (af v16 (0,(0,(0,(0,(false,()))))) (ag .i64 (ax v17 v2) 1)).2.2.1)then
     bif(aZ (az v19 (ak (sub v15 (af v16 (0,(0,(0,(0,(false,()))))) (ag .i64 (ax v17 v2) 1)).2.1 (af v16 (0,(0,(0,(0,(false,()))))) (ag .i64 (ax v17 v2) 1)).2.2.1))) 1)then
      rec v0 true (af v16 (0,(0,(0,(0,(false,()))))) (ag .i64 (ax v17 v2) 1)).2.2.1 v3 v4 v5 v6 v7 [] v9 v10 v11 v12 v13 v14 v15 v16 v17 v18 (az v19 (ak (sub v15 (af v16 (0,(0,(0,(0,(false,()))))) (ag .i64 (ax v17 v2) 1)).2.1 (af v16 (0,(0,(0,(0,(false,()))))) (ag .i64 (ax v17 v2) 1)).2.2.1)))
     else
     none
    else
    none
  else
  none
 else
 kE v1 v3 v4 v5 v6 v7 v8 v9 v10 v11 v12 v13 v14 v15 v16 v17 v18 v19
def eP:Nat->Int->Bool->Int->Int->Bool->Bool->(Int×Int×Int×Int×Bool×Unit)->(List UInt8)->(List (Int))->Int->Int->Int->Int->Bool->(List (Int))->(List UInt8)->(List (Int×Int×Int×Int×Bool×Unit))->(List (Int×Int))->(List UInt8)->(List (Int))->Option (yc.den⊕x9.den)
 |0,_,_,_,_,_,_,_,_,_,_,_,_,_,_,_,_,_,_,_,_=>none
 |n+1,v0,v1,v2,v3,v4,v5,v6,v7,v8,v9,v10,v11,v12,v13,v14,v15,v16,v17,v18,v19=>qJ (eP n) (fun e0 e1 e2 e3 e4 e5 e6 e7 e8 e9 e10 e11 e12 e13 e14 e15 e16 e17=>some (.inl ((e0,()),((e1,e2,e3,e4,()),(e5,()),(),(),()),(e6,(e7,e8,e9,e10,e11,()),e12,(),(),(e13,e14,()),e15,(),(e16,()),e17,(),())))) (fun r0 r1 r2 r3 r4 r5=>some (.inr ((),((r0,()),(),(),()),((r1,r2,()),r3,(),(r4,()),r5,(),())))) v0 v1 v2 v3 v4 v5 v6 v7 v8 v9 v10 v11 v12 v13 v14 v15 v16 v17 v18 v19
noncomputable def EM:bG:=gQ IB uH yc x9 (.exit 0) (fun v=>eP aO v.1.1 v.1.2.1 v.1.2.2.1 v.2.1.1.1 v.2.1.1.2.1 v.2.1.1.2.2.1 v.2.1.1.2.2.2.1 v.2.1.2.1.1 v.2.2.1 v.2.2.2.1.1 v.2.2.2.1.2.1 v.2.2.2.1.2.2.1 v.2.2.2.1.2.2.2.1 v.2.2.2.1.2.2.2.2.1 v.2.2.2.2.1 v.2.2.2.2.2.2.2.1.1 v.2.2.2.2.2.2.2.1.2.1 v.2.2.2.2.2.2.2.2.1 v.2.2.2.2.2.2.2.2.2.2.1.1 v.2.2.2.2.2.2.2.2.2.2.2.1) 12
def vT:SQ:=⟨us [.u,.ptr 2000001 0,.ptr 3000002 0,.ptr 3000003 0,.fn 220 [(3000003,0),(3000002,0)],.v (.int .i64)] 106,[us [.u,.u,.v .str,.ptr 1000003 0] 9,[.yld 1700008],[]],[.arr 3500003 (.int .u8),.box 3000003 111 [.slc 3500003],.box 3000002 269 [.yld 1700008],.box 2000011 268 [.v .str,.v (.list (.pair (.int .i64) (.pair (.int .i64) (.pair (.int .i64) (.pair (.int .i64) (.pair .bool .unit)))))),.mpv 2000009],.mp 2000009 .i64 .i64,.box 2000001 218 [.ptr 2000011 0],.lp 1700008 270 (us [.u,.u,.v .str,.ptr 1000003 0] 9) [8] 4 0 none,.arr 1500003 (.int .u8),.box 1000003 132 [.slf 1000003,.slc 1500003]]⟩
def wP:SQ:=⟨us [.u,.u,.u,.u,.fn 220 [(3000003,0),(3000002,0)]] 107,[us [.u,.u,.v .str,.ptr 1000003 0] 9,[.yld 1700008],[]],[.arr 3500003 (.int .u8),.box 3000003 111 [.slc 3500003],.box 3000002 269 [.yld 1700008],.box 2000011 268 [.v .str,.v (.list (.pair (.int .i64) (.pair (.int .i64) (.pair (.int .i64) (.pair (.int .i64) (.pair .bool .unit)))))),.mpv 2000009],.mp 2000009 .i64 .i64,.box 2000001 218 [.ptr 2000011 0],.lp 1700008 270 (us [.u,.u,.v .str,.ptr 1000003 0] 9) [8] 4 0 none,.arr 1500003 (.int .u8),.box 1000003 132 [.slf 1000003,.slc 1500003]]⟩
def xP:SQ:=⟨us [] 112,[us [.u,.u,.v .str,.ptr 1000003 0] 9,[.yld 1700008],[]],[.box 2000011 268 [.v .str,.v (.list (.pair (.int .i64) (.pair (.int .i64) (.pair (.int .i64) (.pair (.int .i64) (.pair .bool .unit)))))),.mpv 2000009],.mp 2000009 .i64 .i64,.box 2000001 218 [.ptr 2000011 0],.lp 1700008 270 (us [.u,.u,.v .str,.ptr 1000003 0] 9) [8] 4 0 none,.arr 1500003 (.int .u8),.box 1000003 132 [.slf 1000003,.slc 1500003]]⟩
def ru {γ:Type} (rec:Int->(List UInt8)->(List (Int))->(List UInt8)->(List (Int×Int×Int×Int×Bool×Unit))->(List (Int×Int))->(List UInt8)->(List (Int))->Option γ) (kE:(List UInt8)->(List (Int))->(List UInt8)->(List (Int×Int×Int×Int×Bool×Unit))->(List (Int×Int))->(List UInt8)->(List (Int))->Option γ) (kR:(List UInt8)->(List UInt8)->(List (Int×Int×Int×Int×Bool×Unit))->(List (Int×Int))->(List UInt8)->(List (Int))->Option γ) (v0:Int) (v1:List UInt8) (v2:List (Int)) (v3:List UInt8) (v4:List (Int×Int×Int×Int×Bool×Unit)) (v5:List (Int×Int)) (v6:List UInt8) (v7:List (Int)):Option γ:=
 bif(fD v0 (ah v3))then
  bif(aH (ax v5 v0) 0)then
   bif(dX v3 v0)then
    bif(cO v3 v3)then
     bif(aH v0 v0)then
      bif(aZ (az v2 [(aI v3 v0)]) 1)then
       bif(cO v3 v3)then
        bif(aH v0 v0)then
         bif(dX v3 v0)then
          bif(aH (aI v3 v0) (aI v3 v0))then
           rec (aG .i64 v0 1) v1 (az v2 [(aI v3 v0)]) v3 v4 v5 v6 v7
          else
          none
         else
         none
        else
        none
       else
       none
      else
      none
     else
     none
    else
    none
   else
   none
  else
  bif(dX v4 (ag .i64 (ax v5 v0) 1))then
   ai (Ul ((af v4 (0,(0,(0,(0,(false,()))))) (ag .i64 (ax v5 v0) 1)).1,((af v4 (0,(0,(0,(0,(false,()))))) (ag .i64 (ax v5 v0) 1)).2.1,((af v4 (0,(0,(0,(0,(false,()))))) (ag .i64 (ax v5 v0) 1)).2.2.1,((af v4 (0,(0,(0,(0,(false,()))))) (ag .i64 (ax v5 v0) 1)).2.2.2.1,((af v4 (0,(0,(0,(0,(false,()))))) (ag .i64 (ax v5 v0) 1)).2.2.2.2.1,())))))) fun y0=>
    bif y0.1 then
     bif y0.1 then
      bif(bu (ah v3) (af v4 (0,(0,(0,(0,(false,()))))) (ag .i64 (ax v5 v0) 1)).2.1 (af v4 (0,(0,(0,(0,(false,()))))) (ag .i64 (ax v5 v0) 1)).2.2.1)then
       bif(aZ (az v2 (ak (sub v3 (af v4 (0,(0,(0,(0,(false,()))))) (ag .i64 (ax v5 v0) 1)).2.1 (af v4 (0,(0,(0,(0,(false,()))))) (ag .i64 (ax v5 v0) 1)).2.2.1))) 1)then
        rec (af v4 (0,(0,(0,(0,(false,()))))) (ag .i64 (ax v5 v0) 1)).2.2.1 v1 (az v2 (ak (sub v3 (af v4 (0,(0,(0,(0,(false,()))))) (ag .i64 (ax v5 v0) 1)).2.1 (af v4 (0,(0,(0,(0,(false,()))))) (ag .i64 (ax v5 v0) 1)).2.2.1))) v3 v4 v5 v6 v7
       else
       none
      else
      none
     else
     bif(aH (af v4 (0,(0,(0,(0,(false,()))))) (ag .i64 (ax v5 v0) 1)).1 13)then
      bif(aH (af v4 (0,(0,(0,(0,(false,()))))) (ag .i64 (ax v5 v0) 1)).1 13)then
       bif(aH (af v4 (0,(0,(0,(0,(false,()))))) (ag .i64 (ax v5 v0) 1)).1 4)then
        ai (qF ((af v4 (0,(0,(0,(0,(false,()))))) (ag .i64 (ax v5 v0) 1)).1,((af v4 (0,(0,(0,(0,(false,()))))) (ag .i64 (ax v5 v0) 1)).2.1,((af v4 (0,(0,(0,(0,(false,()))))) (ag .i64 (ax v5 v0) 1)).2.2.1,((af v4 (0,(0,(0,(0,(false,()))))) (ag .i64 (ax v5 v0) 1)).2.2.2.1,((af v4 (0,(0,(0,(0,(false,()))))) (ag .i64 (ax v5 v0) 1)).2.2.2.2.1,())))))) fun y1=>
         bif(bu (ah v3) y1.1 y1.2.1)then
          bif(cO (ofBytes v2) [])then
           bif(aZ (az v7 (ak (sub v3 y1.1 y1.2.1))) 1)then
            rec (af v4 (0,(0,(0,(0,(false,()))))) (ag .i64 (ax v5 v0) 1)).2.2.1 v1 [] v3 v4 v5 v6 (az v7 (ak (sub v3 y1.1 y1.2.1)))
           else
           none
          else
          bif(aZ (az v7 (ak (ofBytes v2))) 1)then
           bif(aZ (az (az v7 (ak (ofBytes v2))) (ak (sub v3 y1.1 y1.2.1))) 1)then
            rec (af v4 (0,(0,(0,(0,(false,()))))) (ag .i64 (ax v5 v0) 1)).2.2.1 v1 [] v3 v4 v5 v6 (az (az v7 (ak (ofBytes v2))) (ak (sub v3 y1.1 y1.2.1)))
           else
           none
          else
          none
         else
         none
       else
       bif(bu (ah v3) (aG .i64 (af v4 (0,(0,(0,(0,(false,()))))) (ag .i64 (ax v5 v0) 1)).2.1 1) (af v4 (0,(0,(0,(0,(false,()))))) (ag .i64 (ax v5 v0) 1)).2.2.1)then
        bif(!(cO (sub v3 (aG .i64 (af v4 (0,(0,(0,(0,(false,()))))) (ag .i64 (ax v5 v0) 1)).2.1 1) (af v4 (0,(0,(0,(0,(false,()))))) (ag .i64 (ax v5 v0) 1)).2.2.1) []))then
         bif(!(cO (sub v3 (aG .i64 (af v4 (0,(0,(0,(0,(false,()))))) (ag .i64 (ax v5 v0) 1)).2.1 1) (af v4 (0,(0,(0,(0,(false,()))))) (ag .i64 (ax v5 v0) 1)).2.2.1) [10]))then
          bif(cO (ofBytes v2) [])then
           bif(aZ (az v7 (ak (sub v3 (aG .i64 (af v4 (0,(0,(0,(0,(false,()))))) (ag .i64 (ax v5 v0) 1)).2.1 1) (af v4 (0,(0,(0,(0,(false,()))))) (ag .i64 (ax v5 v0) 1)).2.2.1))) 1)then
            rec (af v4 (0,(0,(0,(0,(false,()))))) (ag .i64 (ax v5 v0) 1)).2.2.1 v1 [] v3 v4 v5 v6 (az v7 (ak (sub v3 (aG .i64 (af v4 (0,(0,(0,(0,(false,()))))) (ag .i64 (ax v5 v0) 1)).2.1 1) (af v4 (0,(0,(0,(0,(false,()))))) (ag .i64 (ax v5 v0) 1)).2.2.1)))
           else
           none
          else
          bif(aZ (az v7 (ak (ofBytes v2))) 1)then
           bif(aZ (az (az v7 (ak (ofBytes v2))) (ak (sub v3 (aG .i64 (af v4 (0,(0,(0,(0,(false,()))))) (ag .i64 (ax v5 v0) 1)).2.1 1) (af v4 (0,(0,(0,(0,(false,()))))) (ag .i64 (ax v5 v0) 1)).2.2.1))) 1)then
            rec (af v4 (0,(0,(0,(0,(false,()))))) (ag .i64 (ax v5 v0) 1)).2.2.1 v1 [] v3 v4 v5 v6 (az (az v7 (ak (ofBytes v2))) (ak (sub v3 (aG .i64 (af v4 (0,(0,(0,(0,(false,()))))) (ag .i64 (ax v5 v0) 1)).2.1 1) (af v4 (0,(0,(0,(0,(false,()))))) (ag .i64 (ax v5 v0) 1)).2.2.1)))
           else
           none
          else
          none
         else
         rec (af v4 (0,(0,(0,(0,(false,()))))) (ag .i64 (ax v5 v0) 1)).2.2.1 v1 v2 v3 v4 v5 v6 v7
        else
        rec (af v4 (0,(0,(0,(0,(false,()))))) (ag .i64 (ax v5 v0) 1)).2.2.1 v1 v2 v3 v4 v5 v6 v7
       else
       none
      else
      bif(aH (af v4 (0,(0,(0,(0,(false,()))))) (ag .i64 (ax v5 v0) 1)).1 5)then
       bif(cO (ofBytes v2) [])then
        ai (qF ((af v4 (0,(0,(0,(0,(false,()))))) (ag .i64 (ax v5 v0) 1)).1,((af v4 (0,(0,(0,(0,(false,()))))) (ag .i64 (ax v5 v0) 1)).2.1,((af v4 (0,(0,(0,(0,(false,()))))) (ag .i64 (ax v5 v0) 1)).2.2.1,((af v4 (0,(0,(0,(0,(false,()))))) (ag .i64 (ax v5 v0) 1)).2.2.2.1,((af v4 (0,(0,(0,(0,(false,()))))) (ag .i64 (ax v5 v0) 1)).2.2.2.2.1,())))))) fun y1=>
         ai (eP aO y1.2.1 false y1.1 (af v4 (0,(0,(0,(0,(false,()))))) (ag .i64 (ax v5 v0) 1)).2.2.1 true true ((af v4 (0,(0,(0,(0,(false,()))))) (ag .i64 (ax v5 v0) 1)).1,((af v4 (0,(0,(0,(0,(false,()))))) (ag .i64 (ax v5 v0) 1)).2.1,((af v4 (0,(0,(0,(0,(false,()))))) (ag .i64 (ax v5 v0) 1)).2.2.1,((af v4 (0,(0,(0,(0,(false,()))))) (ag .i64 (ax v5 v0) 1)).2.2.2.1,((af v4 (0,(0,(0,(0,(false,()))))) (ag .i64 (ax v5 v0) 1)).2.2.2.2.1,()))))) v1 [] (af v4 (0,(0,(0,(0,(false,()))))) (ag .i64 (ax v5 v0) 1)).1 (af v4 (0,(0,(0,(0,(false,()))))) (ag .i64 (ax v5 v0) 1)).2.1 (af v4 (0,(0,(0,(0,(false,()))))) (ag .i64 (ax v5 v0) 1)).2.2.1 (af v4 (0,(0,(0,(0,(false,()))))) (ag .i64 (ax v5 v0) 1)).2.2.2.1 (af v4 (0,(0,(0,(0,(false,()))))) (ag .i64 (ax v5 v0) 1)).2.2.2.2.1 v2 v3 v4 v5 v6 v7) fun y2=>
          bF y2 (fun a3=>
           bif(aH (ah a3.2.2.1) 0)then
            bif a3.1.1 then
             bif a3.2.1.1.2.2.1 then
              rec a3.2.1.1.1 a3.2.1.2.1.1 [] a3.2.2.2.2.2.2.2.1.1 a3.2.2.2.2.2.2.2.1.2.1 a3.2.2.2.2.2.2.2.2.1 a3.2.2.2.2.2.2.2.2.2.2.1.1 a3.2.2.2.2.2.2.2.2.2.2.2.1
             else
             kR a3.2.1.2.1.1 a3.2.2.2.2.2.2.2.1.1 a3.2.2.2.2.2.2.2.1.2.1 a3.2.2.2.2.2.2.2.2.1 a3.2.2.2.2.2.2.2.2.2.2.1.1 a3.2.2.2.2.2.2.2.2.2.2.2.1
            else
            bif(aZ (az a3.2.2.2.2.2.2.2.2.2.2.2.1 (ak (ofBytes a3.2.2.1))) 1)then
             bif a3.2.1.1.2.2.1 then
              rec a3.2.1.1.1 a3.2.1.2.1.1 [] a3.2.2.2.2.2.2.2.1.1 a3.2.2.2.2.2.2.2.1.2.1 a3.2.2.2.2.2.2.2.2.1 a3.2.2.2.2.2.2.2.2.2.2.1.1 (az a3.2.2.2.2.2.2.2.2.2.2.2.1 (ak (ofBytes a3.2.2.1)))
             else
             kR a3.2.1.2.1.1 a3.2.2.2.2.2.2.2.1.1 a3.2.2.2.2.2.2.2.1.2.1 a3.2.2.2.2.2.2.2.2.1 a3.2.2.2.2.2.2.2.2.2.2.1.1 (az a3.2.2.2.2.2.2.2.2.2.2.2.1 (ak (ofBytes a3.2.2.1)))
            else
            none
           else
           bif(aZ (az a3.2.2.2.2.2.2.2.2.2.2.2.1 (ak (ofBytes a3.2.2.1))) 1)then
            bif a3.2.1.1.2.2.1 then
             rec a3.2.1.1.1 a3.2.1.2.1.1 [] a3.2.2.2.2.2.2.2.1.1 a3.2.2.2.2.2.2.2.1.2.1 a3.2.2.2.2.2.2.2.2.1 a3.2.2.2.2.2.2.2.2.2.2.1.1 (az a3.2.2.2.2.2.2.2.2.2.2.2.1 (ak (ofBytes a3.2.2.1)))
            else
            kR a3.2.1.2.1.1 a3.2.2.2.2.2.2.2.1.1 a3.2.2.2.2.2.2.2.1.2.1 a3.2.2.2.2.2.2.2.2.1 a3.2.2.2.2.2.2.2.2.2.2.1.1 (az a3.2.2.2.2.2.2.2.2.2.2.2.1 (ak (ofBytes a3.2.2.1)))
           else
           none) (fun b3=>
           none)
       else
       bif(aZ (az v7 (ak (ofBytes v2))) 1)then
        ai (qF ((af v4 (0,(0,(0,(0,(false,()))))) (ag .i64 (ax v5 v0) 1)).1,((af v4 (0,(0,(0,(0,(false,()))))) (ag .i64 (ax v5 v0) 1)).2.1,((af v4 (0,(0,(0,(0,(false,()))))) (ag .i64 (ax v5 v0) 1)).2.2.1,((af v4 (0,(0,(0,(0,(false,()))))) (ag .i64 (ax v5 v0) 1)).2.2.2.1,((af v4 (0,(0,(0,(0,(false,()))))) (ag .i64 (ax v5 v0) 1)).2.2.2.2.1,())))))) fun y1=>
         ai (eP aO y1.2.1 false y1.1 (af v4 (0,(0,(0,(0,(false,()))))) (ag .i64 (ax v5 v0) 1)).2.2.1 true true ((af v4 (0,(0,(0,(0,(false,()))))) (ag .i64 (ax v5 v0) 1)).1,((af v4 (0,(0,(0,(0,(false,()))))) (ag .i64 (ax v5 v0) 1)).2.1,((af v4 (0,(0,(0,(0,(false,()))))) (ag .i64 (ax v5 v0) 1)).2.2.1,((af v4 (0,(0,(0,(0,(false,()))))) (ag .i64 (ax v5 v0) 1)).2.2.2.1,((af v4 (0,(0,(0,(0,(false,()))))) (ag .i64 (ax v5 v0) 1)).2.2.2.2.1,()))))) v1 [] (af v4 (0,(0,(0,(0,(false,()))))) (ag .i64 (ax v5 v0) 1)).1 (af v4 (0,(0,(0,(0,(false,()))))) (ag .i64 (ax v5 v0) 1)).2.1 (af v4 (0,(0,(0,(0,(false,()))))) (ag .i64 (ax v5 v0) 1)).2.2.1 (af v4 (0,(0,(0,(0,(false,()))))) (ag .i64 (ax v5 v0) 1)).2.2.2.1 (af v4 (0,(0,(0,(0,(false,()))))) (ag .i64 (ax v5 v0) 1)).2.2.2.2.1 v2 v3 v4 v5 v6 (az v7 (ak (ofBytes v2)))) fun y2=>
          bF y2 (fun a3=>
           bif(aH (ah a3.2.2.1) 0)then
            bif a3.1.1 then
             bif a3.2.1.1.2.2.1 then
              rec a3.2.1.1.1 a3.2.1.2.1.1 [] a3.2.2.2.2.2.2.2.1.1 a3.2.2.2.2.2.2.2.1.2.1 a3.2.2.2.2.2.2.2.2.1 a3.2.2.2.2.2.2.2.2.2.2.1.1 a3.2.2.2.2.2.2.2.2.2.2.2.1
             else
             kR a3.2.1.2.1.1 a3.2.2.2.2.2.2.2.1.1 a3.2.2.2.2.2.2.2.1.2.1 a3.2.2.2.2.2.2.2.2.1 a3.2.2.2.2.2.2.2.2.2.2.1.1 a3.2.2.2.2.2.2.2.2.2.2.2.1
            else
            bif(aZ (az a3.2.2.2.2.2.2.2.2.2.2.2.1 (ak (ofBytes a3.2.2.1))) 1)then
             bif a3.2.1.1.2.2.1 then
              rec a3.2.1.1.1 a3.2.1.2.1.1 [] a3.2.2.2.2.2.2.2.1.1 a3.2.2.2.2.2.2.2.1.2.1 a3.2.2.2.2.2.2.2.2.1 a3.2.2.2.2.2.2.2.2.2.2.1.1 (az a3.2.2.2.2.2.2.2.2.2.2.2.1 (ak (ofBytes a3.2.2.1)))
             else
             kR a3.2.1.2.1.1 a3.2.2.2.2.2.2.2.1.1 a3.2.2.2.2.2.2.2.1.2.1 a3.2.2.2.2.2.2.2.2.1 a3.2.2.2.2.2.2.2.2.2.2.1.1 (az a3.2.2.2.2.2.2.2.2.2.2.2.1 (ak (ofBytes a3.2.2.1)))
            else
            none
           else
           bif(aZ (az a3.2.2.2.2.2.2.2.2.2.2.2.1 (ak (ofBytes a3.2.2.1))) 1)then
            bif a3.2.1.1.2.2.1 then
             rec a3.2.1.1.1 a3.2.1.2.1.1 [] a3.2.2.2.2.2.2.2.1.1 a3.2.2.2.2.2.2.2.1.2.1 a3.2.2.2.2.2.2.2.2.1 a3.2.2.2.2.2.2.2.2.2.2.1.1 (az a3.2.2.2.2.2.2.2.2.2.2.2.1 (ak (ofBytes a3.2.2.1)))
            else
            kR a3.2.1.2.1.1 a3.2.2.2.2.2.2.2.1.1 a3.2.2.2.2.2.2.2.1.2.1 a3.2.2.2.2.2.2.2.2.1 a3.2.2.2.2.2.2.2.2.2.2.1.1 (az a3.2.2.2.2.2.2.2.2.2.2.2.1 (ak (ofBytes a3.2.2.1)))
           else
           none) (fun b3=>
           none)
       else
       none
      else
      bif(cO (ofBytes v2) [])then
       bif(bu (ah v3) (af v4 (0,(0,(0,(0,(false,()))))) (ag .i64 (ax v5 v0) 1)).2.1 (af v4 (0,(0,(0,(0,(false,()))))) (ag .i64 (ax v5 v0) 1)).2.2.1)then
        bif(aZ (az v7 (ak (sub v3 (af v4 (0,(0,(0,(0,(false,()))))) (ag .i64 (ax v5 v0) 1)).2.1 (af v4 (0,(0,(0,(0,(false,()))))) (ag .i64 (ax v5 v0) 1)).2.2.1))) 1)then
         rec (af v4 (0,(0,(0,(0,(false,()))))) (ag .i64 (ax v5 v0) 1)).2.2.1 v1 [] v3 v4 v5 v6 (az v7 (ak (sub v3 (af v4 (0,(0,(0,(0,(false,()))))) (ag .i64 (ax v5 v0) 1)).2.1 (af v4 (0,(0,(0,(0,(false,()))))) (ag .i64 (ax v5 v0) 1)).2.2.1)))
        else
        none
       else
       none
      else
      bif(aZ (az v7 (ak (ofBytes v2))) 1)then
       bif(bu (ah v3) (af v4 (0,(0,(0,(0,(false,()))))) (ag .i64 (ax v5 v0) 1)).2.1 (af v4 (0,(0,(0,(0,(false,()))))) (ag .i64 (ax v5 v0) 1)).2.2.1)then
        bif(aZ (az (az v7 (ak (ofBytes v2))) (ak (sub v3 (af v4 (0,(0,(0,(0,(false,()))))) (ag .i64 (ax v5 v0) 1)).2.1 (af v4 (0,(0,(0,(0,(false,()))))) (ag .i64 (ax v5 v0) 1)).2.2.1))) 1)then
         rec (af v4 (0,(0,(0,(0,(false,()))))) (ag .i64 (ax v5 v0) 1)).2.2.1 v1 [] v3 v4 v5 v6 (az (az v7 (ak (ofBytes v2))) (ak (sub v3 (af v4 (0,(0,(0,(0,(false,()))))) (ag .i64 (ax v5 v0) 1)).2.1 (af v4 (0,(0,(0,(0,(false,()))))) (ag .i64 (ax v5 v0) 1)).2.2.1)))
        else
        none
       else
       none
      else
      none
     else
     bif(aH (af v4 (0,(0,(0,(0,(false,()))))) (ag .i64 (ax v5 v0) 1)).1 4)then
      bif(aH (af v4 (0,(0,(0,(0,(false,()))))) (ag .i64 (ax v5 v0) 1)).1 4)then
       ai (qF ((af v4 (0,(0,(0,(0,(false,()))))) (ag .i64 (ax v5 v0) 1)).1,((af v4 (0,(0,(0,(0,(false,()))))) (ag .i64 (ax v5 v0) 1)).2.1,((af v4 (0,(0,(0,(0,(false,()))))) (ag .i64 (ax v5 v0) 1)).2.2.1,((af v4 (0,(0,(0,(0,(false,()))))) (ag .i64 (ax v5 v0) 1)).2.2.2.1,((af v4 (0,(0,(0,(0,(false,()))))) (ag .i64 (ax v5 v0) 1)).2.2.2.2.1,())))))) fun y1=>
        bif(bu (ah v3) y1.1 y1.2.1)then
         bif(cO (ofBytes v2) [])then
          bif(aZ (az v7 (ak (sub v3 y1.1 y1.2.1))) 1)then
           rec (af v4 (0,(0,(0,(0,(false,()))))) (ag .i64 (ax v5 v0) 1)).2.2.1 v1 [] v3 v4 v5 v6 (az v7 (ak (sub v3 y1.1 y1.2.1)))
          else
          none
         else
         bif(aZ (az v7 (ak (ofBytes v2))) 1)then
          bif(aZ (az (az v7 (ak (ofBytes v2))) (ak (sub v3 y1.1 y1.2.1))) 1)then
           rec (af v4 (0,(0,(0,(0,(false,()))))) (ag .i64 (ax v5 v0) 1)).2.2.1 v1 [] v3 v4 v5 v6 (az (az v7 (ak (ofBytes v2))) (ak (sub v3 y1.1 y1.2.1)))
          else
          none
         else
         none
        else
        none
      else
      bif(bu (ah v3) (aG .i64 (af v4 (0,(0,(0,(0,(false,()))))) (ag .i64 (ax v5 v0) 1)).2.1 1) (af v4 (0,(0,(0,(0,(false,()))))) (ag .i64 (ax v5 v0) 1)).2.2.1)then
       bif(!(cO (sub v3 (aG .i64 (af v4 (0,(0,(0,(0,(false,()))))) (ag .i64 (ax v5 v0) 1)).2.1 1) (af v4 (0,(0,(0,(0,(false,()))))) (ag .i64 (ax v5 v0) 1)).2.2.1) []))then
        bif(!(cO (sub v3 (aG .i64 (af v4 (0,(0,(0,(0,(false,()))))) (ag .i64 (ax v5 v0) 1)).2.1 1) (af v4 (0,(0,(0,(0,(false,()))))) (ag .i64 (ax v5 v0) 1)).2.2.1) [10]))then
         bif(cO (ofBytes v2) [])then
          bif(aZ (az v7 (ak (sub v3 (aG .i64 (af v4 (0,(0,(0,(0,(false,()))))) (ag .i64 (ax v5 v0) 1)).2.1 1) (af v4 (0,(0,(0,(0,(false,()))))) (ag .i64 (ax v5 v0) 1)).2.2.1))) 1)then
           rec (af v4 (0,(0,(0,(0,(false,()))))) (ag .i64 (ax v5 v0) 1)).2.2.1 v1 [] v3 v4 v5 v6 (az v7 (ak (sub v3 (aG .i64 (af v4 (0,(0,(0,(0,(false,()))))) (ag .i64 (ax v5 v0) 1)).2.1 1) (af v4 (0,(0,(0,(0,(false,()))))) (ag .i64 (ax v5 v0) 1)).2.2.1)))
          else
          none
         else
         bif(aZ (az v7 (ak (ofBytes v2))) 1)then
          bif(aZ (az (az v7 (ak (ofBytes v2))) (ak (sub v3 (aG .i64 (af v4 (0,(0,(0,(0,(false,()))))) (ag .i64 (ax v5 v0) 1)).2.1 1) (af v4 (0,(0,(0,(0,(false,()))))) (ag .i64 (ax v5 v0) 1)).2.2.1))) 1)then
           rec (af v4 (0,(0,(0,(0,(false,()))))) (ag .i64 (ax v5 v0) 1)).2.2.1 v1 [] v3 v4 v5 v6 (az (az v7 (ak (ofBytes v2))) (ak (sub v3 (aG .i64 (af v4 (0,(0,(0,(0,(false,()))))) (ag .i64 (ax v5 v0) 1)).2.1 1) (af v4 (0,(0,(0,(0,(false,()))))) (ag .i64 (ax v5 v0) 1)).2.2.1)))
          else
          none
         else
         none
        else
        rec (af v4 (0,(0,(0,(0,(false,()))))) (ag .i64 (ax v5 v0) 1)).2.2.1 v1 v2 v3 v4 v5 v6 v7
       else
       rec (af v4 (0,(0,(0,(0,(false,()))))) (ag .i64 (ax v5 v0) 1)).2.2.1 v1 v2 v3 v4 v5 v6 v7
      else
      none
     else
     bif(aH (af v4 (0,(0,(0,(0,(false,()))))) (ag .i64 (ax v5 v0) 1)).1 5)then
      bif(cO (ofBytes v2) [])then
       ai (qF ((af v4 (0,(0,(0,(0,(false,()))))) (ag .i64 (ax v5 v0) 1)).1,((af v4 (0,(0,(0,(0,(false,()))))) (ag .i64 (ax v5 v0) 1)).2.1,((af v4 (0,(0,(0,(0,(false,()))))) (ag .i64 (ax v5 v0) 1)).2.2.1,((af v4 (0,(0,(0,(0,(false,()))))) (ag .i64 (ax v5 v0) 1)).2.2.2.1,((af v4 (0,(0,(0,(0,(false,()))))) (ag .i64 (ax v5 v0) 1)).2.2.2.2.1,())))))) fun y1=>
        ai (eP aO y1.2.1 false y1.1 (af v4 (0,(0,(0,(0,(false,()))))) (ag .i64 (ax v5 v0) 1)).2.2.1 true true ((af v4 (0,(0,(0,(0,(false,()))))) (ag .i64 (ax v5 v0) 1)).1,((af v4 (0,(0,(0,(0,(false,()))))) (ag .i64 (ax v5 v0) 1)).2.1,((af v4 (0,(0,(0,(0,(false,()))))) (ag .i64 (ax v5 v0) 1)).2.2.1,((af v4 (0,(0,(0,(0,(false,()))))) (ag .i64 (ax v5 v0) 1)).2.2.2.1,((af v4 (0,(0,(0,(0,(false,()))))) (ag .i64 (ax v5 v0) 1)).2.2.2.2.1,()))))) v1 [] (af v4 (0,(0,(0,(0,(false,()))))) (ag .i64 (ax v5 v0) 1)).1 (af v4 (0,(0,(0,(0,(false,()))))) (ag .i64 (ax v5 v0) 1)).2.1 (af v4 (0,(0,(0,(0,(false,()))))) (ag .i64 (ax v5 v0) 1)).2.2.1 (af v4 (0,(0,(0,(0,(false,()))))) (ag .i64 (ax v5 v0) 1)).2.2.2.1 (af v4 (0,(0,(0,(0,(false,()))))) (ag .i64 (ax v5 v0) 1)).2.2.2.2.1 v2 v3 v4 v5 v6 v7) fun y2=>
         bF y2 (fun a3=>
          bif(aH (ah a3.2.2.1) 0)then
           bif a3.1.1 then
            bif a3.2.1.1.2.2.1 then
             rec a3.2.1.1.1 a3.2.1.2.1.1 [] a3.2.2.2.2.2.2.2.1.1 a3.2.2.2.2.2.2.2.1.2.1 a3.2.2.2.2.2.2.2.2.1 a3.2.2.2.2.2.2.2.2.2.2.1.1 a3.2.2.2.2.2.2.2.2.2.2.2.1
            else
            kR a3.2.1.2.1.1 a3.2.2.2.2.2.2.2.1.1 a3.2.2.2.2.2.2.2.1.2.1 a3.2.2.2.2.2.2.2.2.1 a3.2.2.2.2.2.2.2.2.2.2.1.1 a3.2.2.2.2.2.2.2.2.2.2.2.1
           else
           bif(aZ (az a3.2.2.2.2.2.2.2.2.2.2.2.1 (ak (ofBytes a3.2.2.1))) 1)then
            bif a3.2.1.1.2.2.1 then
             rec a3.2.1.1.1 a3.2.1.2.1.1 [] a3.2.2.2.2.2.2.2.1.1 a3.2.2.2.2.2.2.2.1.2.1 a3.2.2.2.2.2.2.2.2.1 a3.2.2.2.2.2.2.2.2.2.2.1.1 (az a3.2.2.2.2.2.2.2.2.2.2.2.1 (ak (ofBytes a3.2.2.1)))
            else
            kR a3.2.1.2.1.1 a3.2.2.2.2.2.2.2.1.1 a3.2.2.2.2.2.2.2.1.2.1 a3.2.2.2.2.2.2.2.2.1 a3.2.2.2.2.2.2.2.2.2.2.1.1 (az a3.2.2.2.2.2.2.2.2.2.2.2.1 (ak (ofBytes a3.2.2.1)))
           else
           none
          else
          bif(aZ (az a3.2.2.2.2.2.2.2.2.2.2.2.1 (ak (ofBytes a3.2.2.1))) 1)then
           bif a3.2.1.1.2.2.1 then
            rec a3.2.1.1.1 a3.2.1.2.1.1 [] a3.2.2.2.2.2.2.2.1.1 a3.2.2.2.2.2.2.2.1.2.1 a3.2.2.2.2.2.2.2.2.1 a3.2.2.2.2.2.2.2.2.2.2.1.1 (az a3.2.2.2.2.2.2.2.2.2.2.2.1 (ak (ofBytes a3.2.2.1)))
           else
           kR a3.2.1.2.1.1 a3.2.2.2.2.2.2.2.1.1 a3.2.2.2.2.2.2.2.1.2.1 a3.2.2.2.2.2.2.2.2.1 a3.2.2.2.2.2.2.2.2.2.2.1.1 (az a3.2.2.2.2.2.2.2.2.2.2.2.1 (ak (ofBytes a3.2.2.1)))
          else
          none) (fun b3=>
          none)
      else
      bif(aZ (az v7 (ak (ofBytes v2))) 1)then
       ai (qF ((af v4 (0,(0,(0,(0,(false,()))))) (ag .i64 (ax v5 v0) 1)).1,((af v4 (0,(0,(0,(0,(false,()))))) (ag .i64 (ax v5 v0) 1)).2.1,((af v4 (0,(0,(0,(0,(false,()))))) (ag .i64 (ax v5 v0) 1)).2.2.1,((af v4 (0,(0,(0,(0,(false,()))))) (ag .i64 (ax v5 v0) 1)).2.2.2.1,((af v4 (0,(0,(0,(0,(false,()))))) (ag .i64 (ax v5 v0) 1)).2.2.2.2.1,())))))) fun y1=>
        ai (eP aO y1.2.1 false y1.1 (af v4 (0,(0,(0,(0,(false,()))))) (ag .i64 (ax v5 v0) 1)).2.2.1 true true ((af v4 (0,(0,(0,(0,(false,()))))) (ag .i64 (ax v5 v0) 1)).1,((af v4 (0,(0,(0,(0,(false,()))))) (ag .i64 (ax v5 v0) 1)).2.1,((af v4 (0,(0,(0,(0,(false,()))))) (ag .i64 (ax v5 v0) 1)).2.2.1,((af v4 (0,(0,(0,(0,(false,()))))) (ag .i64 (ax v5 v0) 1)).2.2.2.1,((af v4 (0,(0,(0,(0,(false,()))))) (ag .i64 (ax v5 v0) 1)).2.2.2.2.1,()))))) v1 [] (af v4 (0,(0,(0,(0,(false,()))))) (ag .i64 (ax v5 v0) 1)).1 (af v4 (0,(0,(0,(0,(false,()))))) (ag .i64 (ax v5 v0) 1)).2.1 (af v4 (0,(0,(0,(0,(false,()))))) (ag .i64 (ax v5 v0) 1)).2.2.1 (af v4 (0,(0,(0,(0,(false,()))))) (ag .i64 (ax v5 v0) 1)).2.2.2.1 (af v4 (0,(0,(0,(0,(false,()))))) (ag .i64 (ax v5 v0) 1)).2.2.2.2.1 v2 v3 v4 v5 v6 (az v7 (ak (ofBytes v2)))) fun y2=>
         bF y2 (fun a3=>
          bif(aH (ah a3.2.2.1) 0)then
           bif a3.1.1 then
            bif a3.2.1.1.2.2.1 then
             rec a3.2.1.1.1 a3.2.1.2.1.1 [] a3.2.2.2.2.2.2.2.1.1 a3.2.2.2.2.2.2.2.1.2.1 a3.2.2.2.2.2.2.2.2.1 a3.2.2.2.2.2.2.2.2.2.2.1.1 a3.2.2.2.2.2.2.2.2.2.2.2.1
            else
            kR a3.2.1.2.1.1 a3.2.2.2.2.2.2.2.1.1 a3.2.2.2.2.2.2.2.1.2.1 a3.2.2.2.2.2.2.2.2.1 a3.2.2.2.2.2.2.2.2.2.2.1.1 a3.2.2.2.2.2.2.2.2.2.2.2.1
           else
           bif(aZ (az a3.2.2.2.2.2.2.2.2.2.2.2.1 (ak (ofBytes a3.2.2.1))) 1)then
            bif a3.2.1.1.2.2.1 then
             rec a3.2.1.1.1 a3.2.1.2.1.1 [] a3.2.2.2.2.2.2.2.1.1 a3.2.2.2.2.2.2.2.1.2.1 a3.2.2.2.2.2.2.2.2.1 a3.2.2.2.2.2.2.2.2.2.2.1.1 (az a3.2.2.2.2.2.2.2.2.2.2.2.1 (ak (ofBytes a3.2.2.1)))
            else
            kR a3.2.1.2.1.1 a3.2.2.2.2.2.2.2.1.1 a3.2.2.2.2.2.2.2.1.2.1 a3.2.2.2.2.2.2.2.2.1 a3.2.2.2.2.2.2.2.2.2.2.1.1 (az a3.2.2.2.2.2.2.2.2.2.2.2.1 (ak (ofBytes a3.2.2.1)))
           else
           none
          else
          bif(aZ (az a3.2.2.2.2.2.2.2.2.2.2.2.1 (ak (ofBytes a3.2.2.1))) 1)then
           bif a3.2.1.1.2.2.1 then
            rec a3.2.1.1.1 a3.2.1.2.1.1 [] a3.2.2.2.2.2.2.2.1.1 a3.2.2.2.2.2.2.2.1.2.1 a3.2.2.2.2.2.2.2.2.1 a3.2.2.2.2.2.2.2.2.2.2.1.1 (az a3.2.2.2.2.2.2.2.2.2.2.2.1 (ak (ofBytes a3.2.2.1)))
           else
           kR a3.2.1.2.1.1 a3.2.2.2.2.2.2.2.1.1 a3.2.2.2.2.2.2.2.1.2.1 a3.2.2.2.2.2.2.2.2.1 a3.2.2.2.2.2.2.2.2.2.2.1.1 (az a3.2.2.2.2.2.2.2.2.2.2.2.1 (ak (ofBytes a3.2.2.1)))
          else
          none) (fun b3=>
          none)
      else
      none
     else
     bif(cO (ofBytes v2) [])then
      bif(bu (ah v3) (af v4 (0,(0,(0,(0,(false,()))))) (ag .i64 (ax v5 v0) 1)).2.1 (af v4 (0,(0,(0,(0,(false,()))))) (ag .i64 (ax v5 v0) 1)).2.2.1)then
       bif(aZ (az v7 (ak (sub v3 (af v4 (0,(0,(0,(0,(false,()))))) (ag .i64 (ax v5 v0) 1)).2.1 (af v4 (0,(0,(0,(0,(false,()))))) (ag .i64 (ax v5 v0) 1)).2.2.1))) 1)then
        rec (af v4 (0,(0,(0,(0,(false,()))))) (ag .i64 (ax v5 v0) 1)).2.2.1 v1 [] v3 v4 v5 v6 (az v7 (ak (sub v3 (af v4 (0,(0,(0,(0,(false,()))))) (ag .i64 (ax v5 v0) 1)).2.1 (af v4 (0,(0,(0,(0,(false,()))))) (ag .i64 (ax v5 v0) 1)).2.2.1)))
       else
       none
      else
      none
     else
     bif(aZ (az v7 (ak (ofBytes v2))) 1)then
      bif(bu (ah v3) (af v4 (0,(0,(0,(0,(false,()))))) (ag .i64 (ax v5 v0) 1)).2.1 (af v4 (0,(0,(0,(0,(false,()))))) (ag .i64 (ax v5 v0) 1)).2.2.1)then
       bif(aZ (az (az v7 (ak (ofBytes v2))) (ak (sub v3 (af v4 (0,(0,(0,(0,(false,()))))) (ag .i64 (ax v5 v0) 1)).2.1 (af v4 (0,(0,(0,(0,(false,()))))) (ag .i64 (ax v5 v0) 1)).2.2.1))) 1)then
        rec (af v4 (0,(0,(0,(0,(false,()))))) (ag .i64 (ax v5 v0) 1)).2.2.1 v1 [] v3 v4 v5 v6 (az (az v7 (ak (ofBytes v2))) (ak (sub v3 (af v4 (0,(0,(0,(0,(false,()))))) (ag .i64 (ax v5 v0) 1)).2.1 (af v4 (0,(0,(0,(0,(false,()))))) (ag .i64 (ax v5 v0) 1)).2.2.1)))
       else
       none
      else
      none
     else
     none
    else
    bif(aH (af v4 (0,(0,(0,(0,(false,()))))) (ag .i64 (ax v5 v0) 1)).1 14)then
     bif(bu (ah v3) (af v4 (0,(0,(0,(0,(false,()))))) (ag .i64 (ax v5 v0) 1)).2.1 (af v4 (0,(0,(0,(0,(false,()))))) (ag .i64 (ax v5 v0) 1)).2.2.1)then
      bif(aZ (az v2 (ak (sub v3 (af v4 (0,(0,(0,(0,(false,()))))) (ag .i64 (ax v5 v0) 1)).2.1 (af v4 (0,(0,(0,(0,(false,()))))) (ag .i64 (ax v5 v0) 1)).2.2.1))) 1)then
       rec (af v4 (0,(0,(0,(0,(false,()))))) (ag .i64 (ax v5 v0) 1)).2.2.1 v1 (az v2 (ak (sub v3 (af v4 (0,(0,(0,(0,(false,()))))) (ag .i64 (ax v5 v0) 1)).2.1 (af v4 (0,(0,(0,(0,(false,()))))) (ag .i64 (ax v5 v0) 1)).2.2.1))) v3 v4 v5 v6 v7
      else
      none
     else
     none
    else
    bif(aH (af v4 (0,(0,(0,(0,(false,()))))) (ag .i64 (ax v5 v0) 1)).1 13)then
     bif(aH (af v4 (0,(0,(0,(0,(false,()))))) (ag .i64 (ax v5 v0) 1)).1 13)then
      bif(aH (af v4 (0,(0,(0,(0,(false,()))))) (ag .i64 (ax v5 v0) 1)).1 4)then
       ai (qF ((af v4 (0,(0,(0,(0,(false,()))))) (ag .i64 (ax v5 v0) 1)).1,((af v4 (0,(0,(0,(0,(false,()))))) (ag .i64 (ax v5 v0) 1)).2.1,((af v4 (0,(0,(0,(0,(false,()))))) (ag .i64 (ax v5 v0) 1)).2.2.1,((af v4 (0,(0,(0,(0,(false,()))))) (ag .i64 (ax v5 v0) 1)).2.2.2.1,((af v4 (0,(0,(0,(0,(false,()))))) (ag .i64 (ax v5 v0) 1)).2.2.2.2.1,())))))) fun y1=>
        bif(bu (ah v3) y1.1 y1.2.1)then
         bif(cO (ofBytes v2) [])then
          bif(aZ (az v7 (ak (sub v3 y1.1 y1.2.1))) 1)then
           rec (af v4 (0,(0,(0,(0,(false,()))))) (ag .i64 (ax v5 v0) 1)).2.2.1 v1 [] v3 v4 v5 v6 (az v7 (ak (sub v3 y1.1 y1.2.1)))
          else
          none
         else
         bif(aZ (az v7 (ak (ofBytes v2))) 1)then
          bif(aZ (az (az v7 (ak (ofBytes v2))) (ak (sub v3 y1.1 y1.2.1))) 1)then
           rec (af v4 (0,(0,(0,(0,(false,()))))) (ag .i64 (ax v5 v0) 1)).2.2.1 v1 [] v3 v4 v5 v6 (az (az v7 (ak (ofBytes v2))) (ak (sub v3 y1.1 y1.2.1)))
          else
          none
         else
         none
        else
        none
      else
      bif(bu (ah v3) (aG .i64 (af v4 (0,(0,(0,(0,(false,()))))) (ag .i64 (ax v5 v0) 1)).2.1 1) (af v4 (0,(0,(0,(0,(false,()))))) (ag .i64 (ax v5 v0) 1)).2.2.1)then
       bif(!(cO (sub v3 (aG .i64 (af v4 (0,(0,(0,(0,(false,()))))) (ag .i64 (ax v5 v0) 1)).2.1 1) (af v4 (0,(0,(0,(0,(false,()))))) (ag .i64 (ax v5 v0) 1)).2.2.1) []))then
        bif(!(cO (sub v3 (aG .i64 (af v4 (0,(0,(0,(0,(false,()))))) (ag .i64 (ax v5 v0) 1)).2.1 1) (af v4 (0,(0,(0,(0,(false,()))))) (ag .i64 (ax v5 v0) 1)).2.2.1) [10]))then
         bif(cO (ofBytes v2) [])then
          bif(aZ (az v7 (ak (sub v3 (aG .i64 (af v4 (0,(0,(0,(0,(false,()))))) (ag .i64 (ax v5 v0) 1)).2.1 1) (af v4 (0,(0,(0,(0,(false,()))))) (ag .i64 (ax v5 v0) 1)).2.2.1))) 1)then
           rec (af v4 (0,(0,(0,(0,(false,()))))) (ag .i64 (ax v5 v0) 1)).2.2.1 v1 [] v3 v4 v5 v6 (az v7 (ak (sub v3 (aG .i64 (af v4 (0,(0,(0,(0,(false,()))))) (ag .i64 (ax v5 v0) 1)).2.1 1) (af v4 (0,(0,(0,(0,(false,()))))) (ag .i64 (ax v5 v0) 1)).2.2.1)))
          else
          none
         else
         bif(aZ (az v7 (ak (ofBytes v2))) 1)then
          bif(aZ (az (az v7 (ak (ofBytes v2))) (ak (sub v3 (aG .i64 (af v4 (0,(0,(0,(0,(false,()))))) (ag .i64 (ax v5 v0) 1)).2.1 1) (af v4 (0,(0,(0,(0,(false,()))))) (ag .i64 (ax v5 v0) 1)).2.2.1))) 1)then
           rec (af v4 (0,(0,(0,(0,(false,()))))) (ag .i64 (ax v5 v0) 1)).2.2.1 v1 [] v3 v4 v5 v6 (az (az v7 (ak (ofBytes v2))) (ak (sub v3 (aG .i64 (af v4 (0,(0,(0,(0,(false,()))))) (ag .i64 (ax v5 v0) 1)).2.1 1) (af v4 (0,(0,(0,(0,(false,()))))) (ag .i64 (ax v5 v0) 1)).2.2.1)))
          else
          none
         else
         none
        else
        rec (af v4 (0,(0,(0,(0,(false,()))))) (ag .i64 (ax v5 v0) 1)).2.2.1 v1 v2 v3 v4 v5 v6 v7
       else
       rec (af v4 (0,(0,(0,(0,(false,()))))) (ag .i64 (ax v5 v0) 1)).2.2.1 v1 v2 v3 v4 v5 v6 v7
      else
      none
     else
     bif(aH (af v4 (0,(0,(0,(0,(false,()))))) (ag .i64 (ax v5 v0) 1)).1 5)then
      bif(cO (ofBytes v2) [])then
       ai (qF ((af v4 (0,(0,(0,(0,(false,()))))) (ag .i64 (ax v5 v0) 1)).1,((af v4 (0,(0,(0,(0,(false,()))))) (ag .i64 (ax v5 v0) 1)).2.1,((af v4 (0,(0,(0,(0,(false,()))))) (ag .i64 (ax v5 v0) 1)).2.2.1,((af v4 (0,(0,(0,(0,(false,()))))) (ag .i64 (ax v5 v0) 1)).2.2.2.1,((af v4 (0,(0,(0,(0,(false,()))))) (ag .i64 (ax v5 v0) 1)).2.2.2.2.1,())))))) fun y1=>
        ai (eP aO y1.2.1 false y1.1 (af v4 (0,(0,(0,(0,(false,()))))) (ag .i64 (ax v5 v0) 1)).2.2.1 true true ((af v4 (0,(0,(0,(0,(false,()))))) (ag .i64 (ax v5 v0) 1)).1,((af v4 (0,(0,(0,(0,(false,()))))) (ag .i64 (ax v5 v0) 1)).2.1,((af v4 (0,(0,(0,(0,(false,()))))) (ag .i64 (ax v5 v0) 1)).2.2.1,((af v4 (0,(0,(0,(0,(false,()))))) (ag .i64 (ax v5 v0) 1)).2.2.2.1,((af v4 (0,(0,(0,(0,(false,()))))) (ag .i64 (ax v5 v0) 1)).2.2.2.2.1,()))))) v1 [] (af v4 (0,(0,(0,(0,(false,()))))) (ag .i64 (ax v5 v0) 1)).1 (af v4 (0,(0,(0,(0,(false,()))))) (ag .i64 (ax v5 v0) 1)).2.1 (af v4 (0,(0,(0,(0,(false,()))))) (ag .i64 (ax v5 v0) 1)).2.2.1 (af v4 (0,(0,(0,(0,(false,()))))) (ag .i64 (ax v5 v0) 1)).2.2.2.1 (af v4 (0,(0,(0,(0,(false,()))))) (ag .i64 (ax v5 v0) 1)).2.2.2.2.1 v2 v3 v4 v5 v6 v7) fun y2=>
         bF y2 (fun a3=>
          bif(aH (ah a3.2.2.1) 0)then
           bif a3.1.1 then
            bif a3.2.1.1.2.2.1 then
             rec a3.2.1.1.1 a3.2.1.2.1.1 [] a3.2.2.2.2.2.2.2.1.1 a3.2.2.2.2.2.2.2.1.2.1 a3.2.2.2.2.2.2.2.2.1 a3.2.2.2.2.2.2.2.2.2.2.1.1 a3.2.2.2.2.2.2.2.2.2.2.2.1
            else
            kR a3.2.1.2.1.1 a3.2.2.2.2.2.2.2.1.1 a3.2.2.2.2.2.2.2.1.2.1 a3.2.2.2.2.2.2.2.2.1 a3.2.2.2.2.2.2.2.2.2.2.1.1 a3.2.2.2.2.2.2.2.2.2.2.2.1
           else
           bif(aZ (az a3.2.2.2.2.2.2.2.2.2.2.2.1 (ak (ofBytes a3.2.2.1))) 1)then
            bif a3.2.1.1.2.2.1 then
             rec a3.2.1.1.1 a3.2.1.2.1.1 [] a3.2.2.2.2.2.2.2.1.1 a3.2.2.2.2.2.2.2.1.2.1 a3.2.2.2.2.2.2.2.2.1 a3.2.2.2.2.2.2.2.2.2.2.1.1 (az a3.2.2.2.2.2.2.2.2.2.2.2.1 (ak (ofBytes a3.2.2.1)))
            else
            kR a3.2.1.2.1.1 a3.2.2.2.2.2.2.2.1.1 a3.2.2.2.2.2.2.2.1.2.1 a3.2.2.2.2.2.2.2.2.1 a3.2.2.2.2.2.2.2.2.2.2.1.1 (az a3.2.2.2.2.2.2.2.2.2.2.2.1 (ak (ofBytes a3.2.2.1)))
           else
           none
          else
          bif(aZ (az a3.2.2.2.2.2.2.2.2.2.2.2.1 (ak (ofBytes a3.2.2.1))) 1)then
           bif a3.2.1.1.2.2.1 then
            rec a3.2.1.1.1 a3.2.1.2.1.1 [] a3.2.2.2.2.2.2.2.1.1 a3.2.2.2.2.2.2.2.1.2.1 a3.2.2.2.2.2.2.2.2.1 a3.2.2.2.2.2.2.2.2.2.2.1.1 (az a3.2.2.2.2.2.2.2.2.2.2.2.1 (ak (ofBytes a3.2.2.1)))
           else
           kR a3.2.1.2.1.1 a3.2.2.2.2.2.2.2.1.1 a3.2.2.2.2.2.2.2.1.2.1 a3.2.2.2.2.2.2.2.2.1 a3.2.2.2.2.2.2.2.2.2.2.1.1 (az a3.2.2.2.2.2.2.2.2.2.2.2.1 (ak (ofBytes a3.2.2.1)))
          else
          none) (fun b3=>
          none)
      else
      bif(aZ (az v7 (ak (ofBytes v2))) 1)then
       ai (qF ((af v4 (0,(0,(0,(0,(false,()))))) (ag .i64 (ax v5 v0) 1)).1,((af v4 (0,(0,(0,(0,(false,()))))) (ag .i64 (ax v5 v0) 1)).2.1,((af v4 (0,(0,(0,(0,(false,()))))) (ag .i64 (ax v5 v0) 1)).2.2.1,((af v4 (0,(0,(0,(0,(false,()))))) (ag .i64 (ax v5 v0) 1)).2.2.2.1,((af v4 (0,(0,(0,(0,(false,()))))) (ag .i64 (ax v5 v0) 1)).2.2.2.2.1,())))))) fun y1=>
        ai (eP aO y1.2.1 false y1.1 (af v4 (0,(0,(0,(0,(false,()))))) (ag .i64 (ax v5 v0) 1)).2.2.1 true true ((af v4 (0,(0,(0,(0,(false,()))))) (ag .i64 (ax v5 v0) 1)).1,((af v4 (0,(0,(0,(0,(false,()))))) (ag .i64 (ax v5 v0) 1)).2.1,((af v4 (0,(0,(0,(0,(false,()))))) (ag .i64 (ax v5 v0) 1)).2.2.1,((af v4 (0,(0,(0,(0,(false,()))))) (ag .i64 (ax v5 v0) 1)).2.2.2.1,((af v4 (0,(0,(0,(0,(false,()))))) (ag .i64 (ax v5 v0) 1)).2.2.2.2.1,()))))) v1 [] (af v4 (0,(0,(0,(0,(false,()))))) (ag .i64 (ax v5 v0) 1)).1 (af v4 (0,(0,(0,(0,(false,()))))) (ag .i64 (ax v5 v0) 1)).2.1 (af v4 (0,(0,(0,(0,(false,()))))) (ag .i64 (ax v5 v0) 1)).2.2.1 (af v4 (0,(0,(0,(0,(false,()))))) (ag .i64 (ax v5 v0) 1)).2.2.2.1 (af v4 (0,(0,(0,(0,(false,()))))) (ag .i64 (ax v5 v0) 1)).2.2.2.2.1 v2 v3 v4 v5 v6 (az v7 (ak (ofBytes v2)))) fun y2=>
         bF y2 (fun a3=>
          bif(aH (ah a3.2.2.1) 0)then
           bif a3.1.1 then
            bif a3.2.1.1.2.2.1 then
             rec a3.2.1.1.1 a3.2.1.2.1.1 [] a3.2.2.2.2.2.2.2.1.1 a3.2.2.2.2.2.2.2.1.2.1 a3.2.2.2.2.2.2.2.2.1 a3.2.2.2.2.2.2.2.2.2.2.1.1 a3.2.2.2.2.2.2.2.2.2.2.2.1
            else
            kR a3.2.1.2.1.1 a3.2.2.2.2.2.2.2.1.1 a3.2.2.2.2.2.2.2.1.2.1 a3.2.2.2.2.2.2.2.2.1 a3.2.2.2.2.2.2.2.2.2.2.1.1 a3.2.2.2.2.2.2.2.2.2.2.2.1
           else
           bif(aZ (az a3.2.2.2.2.2.2.2.2.2.2.2.1 (ak (ofBytes a3.2.2.1))) 1)then
            bif a3.2.1.1.2.2.1 then
             rec a3.2.1.1.1 a3.2.1.2.1.1 [] a3.2.2.2.2.2.2.2.1.1 a3.2.2.2.2.2.2.2.1.2.1 a3.2.2.2.2.2.2.2.2.1 a3.2.2.2.2.2.2.2.2.2.2.1.1 (az a3.2.2.2.2.2.2.2.2.2.2.2.1 (ak (ofBytes a3.2.2.1)))
            else
            kR a3.2.1.2.1.1 a3.2.2.2.2.2.2.2.1.1 a3.2.2.2.2.2.2.2.1.2.1 a3.2.2.2.2.2.2.2.2.1 a3.2.2.2.2.2.2.2.2.2.2.1.1 (az a3.2.2.2.2.2.2.2.2.2.2.2.1 (ak (ofBytes a3.2.2.1)))
           else
           none
          else
          bif(aZ (az a3.2.2.2.2.2.2.2.2.2.2.2.1 (ak (ofBytes a3.2.2.1))) 1)then
           bif a3.2.1.1.2.2.1 then
            rec a3.2.1.1.1 a3.2.1.2.1.1 [] a3.2.2.2.2.2.2.2.1.1 a3.2.2.2.2.2.2.2.1.2.1 a3.2.2.2.2.2.2.2.2.1 a3.2.2.2.2.2.2.2.2.2.2.1.1 (az a3.2.2.2.2.2.2.2.2.2.2.2.1 (ak (ofBytes a3.2.2.1)))
           else
           kR a3.2.1.2.1.1 a3.2.2.2.2.2.2.2.1.1 a3.2.2.2.2.2.2.2.1.2.1 a3.2.2.2.2.2.2.2.2.1 a3.2.2.2.2.2.2.2.2.2.2.1.1 (az a3.2.2.2.2.2.2.2.2.2.2.2.1 (ak (ofBytes a3.2.2.1)))
          else
          none) (fun b3=>
          none)
      else
      none
     else
     bif(cO (ofBytes v2) [])then
      bif(bu (ah v3) (af v4 (0,(0,(0,(0,(false,()))))) (ag .i64 (ax v5 v0) 1)).2.1 (af v4 (0,(0,(0,(0,(false,()))))) (ag .i64 (ax v5 v0) 1)).2.2.1)then
       bif(aZ (az v7 (ak (sub v3 (af v4 (0,(0,(0,(0,(false,()))))) (ag .i64 (ax v5 v0) 1)).2.1 (af v4 (0,(0,(0,(0,(false,()))))) (ag .i64 (ax v5 v0) 1)).2.2.1))) 1)then
        rec (af v4 (0,(0,(0,(0,(false,()))))) (ag .i64 (ax v5 v0) 1)).2.2.1 v1 [] v3 v4 v5 v6 (az v7 (ak (sub v3 (af v4 (0,(0,(0,(0,(false,()))))) (ag .i64 (ax v5 v0) 1)).2.1 (af v4 (0,(0,(0,(0,(false,()))))) (ag .i64 (ax v5 v0) 1)).2.2.1)))
       else
       none
      else
      none
     else
     bif(aZ (az v7 (ak (ofBytes v2))) 1)then
      bif(bu (ah v3) (af v4 (0,(0,(0,(0,(false,()))))) (ag .i64 (ax v5 v0) 1)).2.1 (af v4 (0,(0,(0,(0,(false,()))))) (ag .i64 (ax v5 v0) 1)).2.2.1)then
       bif(aZ (az (az v7 (ak (ofBytes v2))) (ak (sub v3 (af v4 (0,(0,(0,(0,(false,()))))) (ag .i64 (ax v5 v0) 1)).2.1 (af v4 (0,(0,(0,(0,(false,()))))) (ag .i64 (ax v5 v0) 1)).2.2.1))) 1)then
        rec (af v4 (0,(0,(0,(0,(false,()))))) (ag .i64 (ax v5 v0) 1)).2.2.1 v1 [] v3 v4 v5 v6 (az (az v7 (ak (ofBytes v2))) (ak (sub v3 (af v4 (0,(0,(0,(0,(false,()))))) (ag .i64 (ax v5 v0) 1)).2.1 (af v4 (0,(0,(0,(0,(false,()))))) (ag .i64 (ax v5 v0) 1)).2.2.1)))
       else
       none
      else
      none
     else
     none
    else
    bif(aH (af v4 (0,(0,(0,(0,(false,()))))) (ag .i64 (ax v5 v0) 1)).1 4)then
     bif(aH (af v4 (0,(0,(0,(0,(false,()))))) (ag .i64 (ax v5 v0) 1)).1 4)then
      ai (qF ((af v4 (0,(0,(0,(0,(false,()))))) (ag .i64 (ax v5 v0) 1)).1,((af v4 (0,(0,(0,(0,(false,()))))) (ag .i64 (ax v5 v0) 1)).2.1,((af v4 (0,(0,(0,(0,(false,()))))) (ag .i64 (ax v5 v0) 1)).2.2.1,((af v4 (0,(0,(0,(0,(false,()))))) (ag .i64 (ax v5 v0) 1)).2.2.2.1,((af v4 (0,(0,(0,(0,(false,()))))) (ag .i64 (ax v5 v0) 1)).2.2.2.2.1,())))))) fun y1=>
       bif(bu (ah v3) y1.1 y1.2.1)then
        bif(cO (ofBytes v2) [])then
         bif(aZ (az v7 (ak (sub v3 y1.1 y1.2.1))) 1)then
          rec (af v4 (0,(0,(0,(0,(false,()))))) (ag .i64 (ax v5 v0) 1)).2.2.1 v1 [] v3 v4 v5 v6 (az v7 (ak (sub v3 y1.1 y1.2.1)))
         else
         none
        else
        bif(aZ (az v7 (ak (ofBytes v2))) 1)then
         bif(aZ (az (az v7 (ak (ofBytes v2))) (ak (sub v3 y1.1 y1.2.1))) 1)then
          rec (af v4 (0,(0,(0,(0,(false,()))))) (ag .i64 (ax v5 v0) 1)).2.2.1 v1 [] v3 v4 v5 v6 (az (az v7 (ak (ofBytes v2))) (ak (sub v3 y1.1 y1.2.1)))
         else
         none
        else
        none
       else
       none
     else
     bif(bu (ah v3) (aG .i64 (af v4 (0,(0,(0,(0,(false,()))))) (ag .i64 (ax v5 v0) 1)).2.1 1) (af v4 (0,(0,(0,(0,(false,()))))) (ag .i64 (ax v5 v0) 1)).2.2.1)then
      bif(!(cO (sub v3 (aG .i64 (af v4 (0,(0,(0,(0,(false,()))))) (ag .i64 (ax v5 v0) 1)).2.1 1) (af v4 (0,(0,(0,(0,(false,()))))) (ag .i64 (ax v5 v0) 1)).2.2.1) []))then
       bif(!(cO (sub v3 (aG .i64 (af v4 (0,(0,(0,(0,(false,()))))) (ag .i64 (ax v5 v0) 1)).2.1 1) (af v4 (0,(0,(0,(0,(false,()))))) (ag .i64 (ax v5 v0) 1)).2.2.1) [10]))then
        bif(cO (ofBytes v2) [])then
         bif(aZ (az v7 (ak (sub v3 (aG .i64 (af v4 (0,(0,(0,(0,(false,()))))) (ag .i64 (ax v5 v0) 1)).2.1 1) (af v4 (0,(0,(0,(0,(false,()))))) (ag .i64 (ax v5 v0) 1)).2.2.1))) 1)then
          rec (af v4 (0,(0,(0,(0,(false,()))))) (ag .i64 (ax v5 v0) 1)).2.2.1 v1 [] v3 v4 v5 v6 (az v7 (ak (sub v3 (aG .i64 (af v4 (0,(0,(0,(0,(false,()))))) (ag .i64 (ax v5 v0) 1)).2.1 1) (af v4 (0,(0,(0,(0,(false,()))))) (ag .i64 (ax v5 v0) 1)).2.2.1)))
         else
         none
        else
        bif(aZ (az v7 (ak (ofBytes v2))) 1)then
         bif(aZ (az (az v7 (ak (ofBytes v2))) (ak (sub v3 (aG .i64 (af v4 (0,(0,(0,(0,(false,()))))) (ag .i64 (ax v5 v0) 1)).2.1 1) (af v4 (0,(0,(0,(0,(false,()))))) (ag .i64 (ax v5 v0) 1)).2.2.1))) 1)then
          rec (af v4 (0,(0,(0,(0,(false,()))))) (ag .i64 (ax v5 v0) 1)).2.2.1 v1 [] v3 v4 v5 v6 (az (az v7 (ak (ofBytes v2))) (ak (sub v3 (aG .i64 (af v4 (0,(0,(0,(0,(false,()))))) (ag .i64 (ax v5 v0) 1)).2.1 1) (af v4 (0,(0,(0,(0,(false,()))))) (ag .i64 (ax v5 v0) 1)).2.2.1)))
         else
         none
        else
        none
       else
       rec (af v4 (0,(0,(0,(0,(false,()))))) (ag .i64 (ax v5 v0) 1)).2.2.1 v1 v2 v3 v4 v5 v6 v7
      else
      rec (af v4 (0,(0,(0,(0,(false,()))))) (ag .i64 (ax v5 v0) 1)).2.2.1 v1 v2 v3 v4 v5 v6 v7
     else
     none
    else
    bif(aH (af v4 (0,(0,(0,(0,(false,()))))) (ag .i64 (ax v5 v0) 1)).1 5)then
     bif(cO (ofBytes v2) [])then
      ai (qF ((af v4 (0,(0,(0,(0,(false,()))))) (ag .i64 (ax v5 v0) 1)).1,((af v4 (0,(0,(0,(0,(false,()))))) (ag .i64 (ax v5 v0) 1)).2.1,((af v4 (0,(0,(0,(0,(false,()))))) (ag .i64 (ax v5 v0) 1)).2.2.1,((af v4 (0,(0,(0,(0,(false,()))))) (ag .i64 (ax v5 v0) 1)).2.2.2.1,((af v4 (0,(0,(0,(0,(false,()))))) (ag .i64 (ax v5 v0) 1)).2.2.2.2.1,())))))) fun y1=>
       ai (eP aO y1.2.1 false y1.1 (af v4 (0,(0,(0,(0,(false,()))))) (ag .i64 (ax v5 v0) 1)).2.2.1 true true ((af v4 (0,(0,(0,(0,(false,()))))) (ag .i64 (ax v5 v0) 1)).1,((af v4 (0,(0,(0,(0,(false,()))))) (ag .i64 (ax v5 v0) 1)).2.1,((af v4 (0,(0,(0,(0,(false,()))))) (ag .i64 (ax v5 v0) 1)).2.2.1,((af v4 (0,(0,(0,(0,(false,()))))) (ag .i64 (ax v5 v0) 1)).2.2.2.1,((af v4 (0,(0,(0,(0,(false,()))))) (ag .i64 (ax v5 v0) 1)).2.2.2.2.1,()))))) v1 [] (af v4 (0,(0,(0,(0,(false,()))))) (ag .i64 (ax v5 v0) 1)).1 (af v4 (0,(0,(0,(0,(false,()))))) (ag .i64 (ax v5 v0) 1)).2.1 (af v4 (0,(0,(0,(0,(false,()))))) (ag .i64 (ax v5 v0) 1)).2.2.1 (af v4 (0,(0,(0,(0,(false,()))))) (ag .i64 (ax v5 v0) 1)).2.2.2.1 (af v4 (0,(0,(0,(0,(false,()))))) (ag .i64 (ax v5 v0) 1)).2.2.2.2.1 v2 v3 v4 v5 v6 v7) fun y2=>
        bF y2 (fun a3=>
         bif(aH (ah a3.2.2.1) 0)then
          bif a3.1.1 then
           bif a3.2.1.1.2.2.1 then
            rec a3.2.1.1.1 a3.2.1.2.1.1 [] a3.2.2.2.2.2.2.2.1.1 a3.2.2.2.2.2.2.2.1.2.1 a3.2.2.2.2.2.2.2.2.1 a3.2.2.2.2.2.2.2.2.2.2.1.1 a3.2.2.2.2.2.2.2.2.2.2.2.1
           else
           kR a3.2.1.2.1.1 a3.2.2.2.2.2.2.2.1.1 a3.2.2.2.2.2.2.2.1.2.1 a3.2.2.2.2.2.2.2.2.1 a3.2.2.2.2.2.2.2.2.2.2.1.1 a3.2.2.2.2.2.2.2.2.2.2.2.1
          else
          bif(aZ (az a3.2.2.2.2.2.2.2.2.2.2.2.1 (ak (ofBytes a3.2.2.1))) 1)then
           bif a3.2.1.1.2.2.1 then
            rec a3.2.1.1.1 a3.2.1.2.1.1 [] a3.2.2.2.2.2.2.2.1.1 a3.2.2.2.2.2.2.2.1.2.1 a3.2.2.2.2.2.2.2.2.1 a3.2.2.2.2.2.2.2.2.2.2.1.1 (az a3.2.2.2.2.2.2.2.2.2.2.2.1 (ak (ofBytes a3.2.2.1)))
           else
           kR a3.2.1.2.1.1 a3.2.2.2.2.2.2.2.1.1 a3.2.2.2.2.2.2.2.1.2.1 a3.2.2.2.2.2.2.2.2.1 a3.2.2.2.2.2.2.2.2.2.2.1.1 (az a3.2.2.2.2.2.2.2.2.2.2.2.1 (ak (ofBytes a3.2.2.1)))
          else
          none
         else
         bif(aZ (az a3.2.2.2.2.2.2.2.2.2.2.2.1 (ak (ofBytes a3.2.2.1))) 1)then
          bif a3.2.1.1.2.2.1 then
           rec a3.2.1.1.1 a3.2.1.2.1.1 [] a3.2.2.2.2.2.2.2.1.1 a3.2.2.2.2.2.2.2.1.2.1 a3.2.2.2.2.2.2.2.2.1 a3.2.2.2.2.2.2.2.2.2.2.1.1 (az a3.2.2.2.2.2.2.2.2.2.2.2.1 (ak (ofBytes a3.2.2.1)))
          else
          kR a3.2.1.2.1.1 a3.2.2.2.2.2.2.2.1.1 a3.2.2.2.2.2.2.2.1.2.1 a3.2.2.2.2.2.2.2.2.1 a3.2.2.2.2.2.2.2.2.2.2.1.1 (az a3.2.2.2.2.2.2.2.2.2.2.2.1 (ak (ofBytes a3.2.2.1)))
         else
         none) (fun b3=>
         none)
     else
     bif(aZ (az v7 (ak (ofBytes v2))) 1)then
      ai (qF ((af v4 (0,(0,(0,(0,(false,()))))) (ag .i64 (ax v5 v0) 1)).1,((af v4 (0,(0,(0,(0,(false,()))))) (ag .i64 (ax v5 v0) 1)).2.1,((af v4 (0,(0,(0,(0,(false,()))))) (ag .i64 (ax v5 v0) 1)).2.2.1,((af v4 (0,(0,(0,(0,(false,()))))) (ag .i64 (ax v5 v0) 1)).2.2.2.1,((af v4 (0,(0,(0,(0,(false,()))))) (ag .i64 (ax v5 v0) 1)).2.2.2.2.1,())))))) fun y1=>
       ai (eP aO y1.2.1 false y1.1 (af v4 (0,(0,(0,(0,(false,()))))) (ag .i64 (ax v5 v0) 1)).2.2.1 true true ((af v4 (0,(0,(0,(0,(false,()))))) (ag .i64 (ax v5 v0) 1)).1,((af v4 (0,(0,(0,(0,(false,()))))) (ag .i64 (ax v5 v0) 1)).2.1,((af v4 (0,(0,(0,(0,(false,()))))) (ag .i64 (ax v5 v0) 1)).2.2.1,((af v4 (0,(0,(0,(0,(false,()))))) (ag .i64 (ax v5 v0) 1)).2.2.2.1,((af v4 (0,(0,(0,(0,(false,()))))) (ag .i64 (ax v5 v0) 1)).2.2.2.2.1,()))))) v1 [] (af v4 (0,(0,(0,(0,(false,()))))) (ag .i64 (ax v5 v0) 1)).1 (af v4 (0,(0,(0,(0,(false,()))))) (ag .i64 (ax v5 v0) 1)).2.1 (af v4 (0,(0,(0,(0,(false,()))))) (ag .i64 (ax v5 v0) 1)).2.2.1 (af v4 (0,(0,(0,(0,(false,()))))) (ag .i64 (ax v5 v0) 1)).2.2.2.1 (af v4 (0,(0,(0,(0,(false,()))))) (ag .i64 (ax v5 v0) 1)).2.2.2.2.1 v2 v3 v4 v5 v6 (az v7 (ak (ofBytes v2)))) fun y2=>
        bF y2 (fun a3=>
         bif(aH (ah a3.2.2.1) 0)then
          bif a3.1.1 then
           bif a3.2.1.1.2.2.1 then
            rec a3.2.1.1.1 a3.2.1.2.1.1 [] a3.2.2.2.2.2.2.2.1.1 a3.2.2.2.2.2.2.2.1.2.1 a3.2.2.2.2.2.2.2.2.1 a3.2.2.2.2.2.2.2.2.2.2.1.1 a3.2.2.2.2.2.2.2.2.2.2.2.1
           else
           kR a3.2.1.2.1.1 a3.2.2.2.2.2.2.2.1.1 a3.2.2.2.2.2.2.2.1.2.1 a3.2.2.2.2.2.2.2.2.1 a3.2.2.2.2.2.2.2.2.2.2.1.1 a3.2.2.2.2.2.2.2.2.2.2.2.1
          else
          bif(aZ (az a3.2.2.2.2.2.2.2.2.2.2.2.1 (ak (ofBytes a3.2.2.1))) 1)then
           bif a3.2.1.1.2.2.1 then
            rec a3.2.1.1.1 a3.2.1.2.1.1 [] a3.2.2.2.2.2.2.2.1.1 a3.2.2.2.2.2.2.2.1.2.1 a3.2.2.2.2.2.2.2.2.1 a3.2.2.2.2.2.2.2.2.2.2.1.1 (az a3.2.2.2.2.2.2.2.2.2.2.2.1 (ak (ofBytes a3.2.2.1)))
           else
           kR a3.2.1.2.1.1 a3.2.2.2.2.2.2.2.1.1 a3.2.2.2.2.2.2.2.1.2.1 a3.2.2.2.2.2.2.2.2.1 a3.2.2.2.2.2.2.2.2.2.2.1.1 (az a3.2.2.2.2.2.2.2.2.2.2.2.1 (ak (ofBytes a3.2.2.1)))
          else
          none
         else
         bif(aZ (az a3.2.2.2.2.2.2.2.2.2.2.2.1 (ak (ofBytes a3.2.2.1))) 1)then
          bif a3.2.1.1.2.2.1 then
           rec a3.2.1.1.1 a3.2.1.2.1.1 [] a3.2.2.2.2.2.2.2.1.1 a3.2.2.2.2.2.2.2.1.2.1 a3.2.2.2.2.2.2.2.2.1 a3.2.2.2.2.2.2.2.2.2.2.1.1 (az a3.2.2.2.2.2.2.2.2.2.2.2.1 (ak (ofBytes a3.2.2.1)))
          else
          kR a3.2.1.2.1.1 a3.2.2.2.2.2.2.2.1.1 a3.2.2.2.2.2.2.2.1.2.1 a3.2.2.2.2.2.2.2.2.1 a3.2.2.2.2.2.2.2.2.2.2.1.1 (az a3.2.2.2.2.2.2.2.2.2.2.2.1 (ak (ofBytes a3.2.2.1)))
         else
         none) (fun b3=>
         none)
     else
     none
    else
    bif(cO (ofBytes v2) [])then
     bif(bu (ah v3) (af v4 (0,(0,(0,(0,(false,()))))) (ag .i64 (ax v5 v0) 1)).2.1 (af v4 (0,(0,(0,(0,(false,()))))) (ag .i64 (ax v5 v0) 1)).2.2.1)then
      bif(aZ (az v7 (ak (sub v3 (af v4 (0,(0,(0,(0,(false,()))))) (ag .i64 (ax v5 v0) 1)).2.1 (af v4 (0,(0,(0,(0,(false,()))))) (ag .i64 (ax v5 v0) 1)).2.2.1))) 1)then
       rec (af v4 (0,(0,(0,(0,(false,()))))) (ag .i64 (ax v5 v0) 1)).2.2.1 v1 [] v3 v4 v5 v6 (az v7 (ak (sub v3 (af v4 (0,(0,(0,(0,(false,()))))) (ag .i64 (ax v5 v0) 1)).2.1 (af v4 (0,(0,(0,(0,(false,()))))) (ag .i64 (ax v5 v0) 1)).2.2.1)))
      else
      none
     else
     none
    else
    bif(aZ (az v7 (ak (ofBytes v2))) 1)then
     bif(bu (ah v3) (af v4 (0,(0,(0,(0,(false,()))))) (ag .i64 (ax v5 v0) 1)).2.1 (af v4 (0,(0,(0,(0,(false,()))))) (ag .i64 (ax v5 v0) 1)).2.2.1)then
      bif(aZ (az (az v7 (ak (ofBytes v2))) (ak (sub v3 (af v4 (0,(0,(0,(0,(false,()))))) (ag .i64 (ax v5 v0) 1)).2.1 (af v4 (0,(0,(0,(0,(false,()))))) (ag .i64 (ax v5 v0) 1)).2.2.1))) 1)then
       rec (af v4 (0,(0,(0,(0,(false,()))))) (ag .i64 (ax v5 v0) 1)).2.2.1 v1 [] v3 v4 v5 v6 (az (az v7 (ak (ofBytes v2))) (ak (sub v3 (af v4 (0,(0,(0,(0,(false,()))))) (ag .i64 (ax v5 v0) 1)).2.1 (af v4 (0,(0,(0,(0,(false,()))))) (ag .i64 (ax v5 v0) 1)).2.2.1)))
      else
      none
     else
     none
    else
    none
  else
  none
 else
 kE v1 v2 v3 v4 v5 v6 v7
def fP:Nat->Int->(List UInt8)->(List (Int))->(List UInt8)->(List (Int×Int×Int×Int×Bool×Unit))->(List (Int×Int))->(List UInt8)->(List (Int))->Option (wP.den⊕xP.den)
 |0,_,_,_,_,_,_,_,_=>none
 |n+1,v0,v1,v2,v3,v4,v5,v6,v7=>ru (fP n) (fun e0 e1 e2 e3 e4 e5 e6=>some (.inl ((),((e0,()),(),(),()),(e1,(),(),(e2,e3,()),e4,(),(e5,()),e6,(),())))) (fun r0 r1 r2 r3 r4 r5=>some (.inr ((),((r0,()),(),(),()),((r1,r2,()),r3,(),(r4,()),r5,(),())))) v0 v1 v2 v3 v4 v5 v6 v7
noncomputable def EN:bG:=gQ Hy vT wP xP (.exit 0) (fun v=>fP aO v.1.1 v.2.1.1.1 v.2.2.1 v.2.2.2.2.2.1.1 v.2.2.2.2.2.1.2.1 v.2.2.2.2.2.2.1 v.2.2.2.2.2.2.2.2.1.1 v.2.2.2.2.2.2.2.2.2.1) 18
def ZL (x0:List UInt8):Option ((List UInt8)×Unit):=
 ai (Zq x0) fun y0=>
  ai (jZ aO y0.1 (ah y0.1) 0 x0 [] x0 x0 y0.1 [] []) fun y1=>
   bF y1 (fun a2=>
    ai (fP aO 0 a2.2.1.1.2.1 [] a2.2.2.1.1 a2.2.2.1.2.1 a2.2.2.2.1 a2.2.1.1.2.1 a2.2.2.2.2.2.1) fun y3=>
     bF y3 (fun a4=>
      bif(cO (ofBytes a4.2.2.1) [])then
       bif(aH (ah a4.2.2.2.2.2.2.2.2.2.1) (ah a4.2.2.2.2.2.2.2.2.2.1))then
        some ((ofBytes a4.2.2.2.2.2.2.2.2.2.1),())
       else
       none
      else
      bif(aZ (az a4.2.2.2.2.2.2.2.2.2.1 (ak (ofBytes a4.2.2.1))) 1)then
       bif(aH (ah (az a4.2.2.2.2.2.2.2.2.2.1 (ak (ofBytes a4.2.2.1)))) (ah (az a4.2.2.2.2.2.2.2.2.2.1 (ak (ofBytes a4.2.2.1)))))then
        some ((ofBytes (az a4.2.2.2.2.2.2.2.2.2.1 (ak (ofBytes a4.2.2.1)))),())
       else
       none
      else
      none) (fun b4=>
      bif(aH (ah b4.2.2.2.2.2.2.1) (ah b4.2.2.2.2.2.2.1))then
       some ((ofBytes b4.2.2.2.2.2.2.1),())
      else
      none)) (fun b2=>
    none)
def XE:Sum:=(⟨[.str],[(.str,false)],fun x=>ZL x.1⟩:Sum)
noncomputable def wQ:Env:=fV Tryz.prog tt [(158,WU),(222,XJ),(280,Xc)] [(159,3,Hl),(219,4,Hy),(224,5,IB),(270,500004,aje),(270,600002,aiG),(270,600004,ajG),(270,600005,aiV),(83,600001,Vk),(219,600005,Tt),(219,600016,Nq),(219,600017,Ot),(219,600019,QE),(219,600010,Po),(219,600020,Qe),(220,600003,TR),(224,600006,Ue),(224,600016,Rf),(224,600007,TV),(224,600009,Rz),(224,600020,Nu)] [(159,3,Et),(224,5,EM),(219,4,EN)] [270]
def E9 {γ:Type} (a:uw.den->Option γ) (b:xh.den->Option γ) (c:xJ.den->Option γ) (v:uw.den):Option γ:=rD (fun v0 v1 v2 v3 v4 v5 v6 v7 v8 v9=>a ((v0,v1,v2,()),((v3,v4,v5,()),(),()),((v6,v7,()),v8,(),v9,()))) (fun e0 e1 e2 e3 e4 e5 e6=>b ((),((e0,e1,e2,()),(),()),((e3,e4,()),e5,(),e6,()))) (fun r0 r1 r2 r3 r4 r5=>c ((),((r0,()),(),(),()),((r1,r2,()),r3,(),(r4,()),r5,(),()))) v.1.1 v.1.2.1 v.1.2.2.1 v.2.1.1.1 v.2.1.1.2.1 v.2.1.1.2.2.1 v.2.2.1.1 v.2.2.1.2.1 v.2.2.2.1 v.2.2.2.2.2.1
theorem Rx:di wQ 159 Hz Et:=Fq (E9) (lp:=fun n (v:uw.den)=>jZ n v.1.1 v.1.2.1 v.1.2.2.1 v.2.1.1.1 v.2.1.1.2.1 v.2.1.1.2.2.1 v.2.2.1.1 v.2.2.1.2.1 v.2.2.2.1 v.2.2.2.2.2.1) (by kernel_rfl) (fun _=>rfl) (fun _ _=>rfl) (fun d n K v=>by kernel_rfl) (by intros;simp only[E9,rD,bn,bg,ae,aV,bi])
def EY {γ:Type} (a:uH.den->Option γ) (b:yc.den->Option γ) (c:x9.den->Option γ) (v:uH.den):Option γ:=qJ (fun v0 v1 v2 v3 v4 v5 v6 v7 v8 v9 v10 v11 v12 v13 v14 v15 v16 v17 v18 v19=>a ((v0,v1,v2,()),((v3,v4,v5,v6,()),(v7,()),(),(),()),(v8,(v9,v10,v11,v12,v13,()),v14,(),(),(v15,v16,()),v17,(),(v18,()),v19,(),()))) (fun e0 e1 e2 e3 e4 e5 e6 e7 e8 e9 e10 e11 e12 e13 e14 e15 e16 e17=>b ((e0,()),((e1,e2,e3,e4,()),(e5,()),(),(),()),(e6,(e7,e8,e9,e10,e11,()),e12,(),(),(e13,e14,()),e15,(),(e16,()),e17,(),()))) (fun r0 r1 r2 r3 r4 r5=>c ((),((r0,()),(),(),()),((r1,r2,()),r3,(),(r4,()),r5,(),()))) v.1.1 v.1.2.1 v.1.2.2.1 v.2.1.1.1 v.2.1.1.2.1 v.2.1.1.2.2.1 v.2.1.1.2.2.2.1 v.2.1.2.1.1 v.2.2.1 v.2.2.2.1.1 v.2.2.2.1.2.1 v.2.2.2.1.2.2.1 v.2.2.2.1.2.2.2.1 v.2.2.2.1.2.2.2.2.1 v.2.2.2.2.1 v.2.2.2.2.2.2.2.1.1 v.2.2.2.2.2.2.2.1.2.1 v.2.2.2.2.2.2.2.2.1 v.2.2.2.2.2.2.2.2.2.2.1.1 v.2.2.2.2.2.2.2.2.2.2.2.1
theorem Tm:di wQ 224 IE EM:=Fq (EY) (lp:=fun n (v:uH.den)=>eP n v.1.1 v.1.2.1 v.1.2.2.1 v.2.1.1.1 v.2.1.1.2.1 v.2.1.1.2.2.1 v.2.1.1.2.2.2.1 v.2.1.2.1.1 v.2.2.1 v.2.2.2.1.1 v.2.2.2.1.2.1 v.2.2.2.1.2.2.1 v.2.2.2.1.2.2.2.1 v.2.2.2.1.2.2.2.2.1 v.2.2.2.2.1 v.2.2.2.2.2.2.2.1.1 v.2.2.2.2.2.2.2.1.2.1 v.2.2.2.2.2.2.2.2.1 v.2.2.2.2.2.2.2.2.2.2.1.1 v.2.2.2.2.2.2.2.2.2.2.2.1) (by kernel_rfl) (fun _=>rfl) (fun _ _=>rfl) (fun d n K v=>by kernel_rfl) (by intros;simp only[EY,qJ,bn,bg,ae,aV,bi])
def ED {γ:Type} (a:vT.den->Option γ) (b:wP.den->Option γ) (c:xP.den->Option γ) (v:vT.den):Option γ:=ru (fun v0 v1 v2 v3 v4 v5 v6 v7=>a ((v0,()),((v1,()),(),(),()),(v2,(),(),(v3,v4,()),v5,(),(v6,()),v7,(),()))) (fun e0 e1 e2 e3 e4 e5 e6=>b ((),((e0,()),(),(),()),(e1,(),(),(e2,e3,()),e4,(),(e5,()),e6,(),()))) (fun r0 r1 r2 r3 r4 r5=>c ((),((r0,()),(),(),()),((r1,r2,()),r3,(),(r4,()),r5,(),()))) v.1.1 v.2.1.1.1 v.2.2.1 v.2.2.2.2.2.1.1 v.2.2.2.2.2.1.2.1 v.2.2.2.2.2.2.1 v.2.2.2.2.2.2.2.2.1.1 v.2.2.2.2.2.2.2.2.2.1
theorem TE:di wQ 219 Ig EN:=Fq (ED) (lp:=fun n (v:vT.den)=>fP n v.1.1 v.2.1.1.1 v.2.2.1 v.2.2.2.2.2.1.1 v.2.2.2.2.2.1.2.1 v.2.2.2.2.2.2.1 v.2.2.2.2.2.2.2.2.1.1 v.2.2.2.2.2.2.2.2.2.1) (by kernel_rfl) (fun _=>rfl) (fun _ _=>rfl) (fun d n K v=>by kernel_rfl) (by intros;simp only[ED,ru,bn,bg,ae,aV,bi])
theorem am4:bZ Rn=[]:=by kernel_rfl
theorem anw:iL Rn=[(cA (cA (cB (cA (cB (cB (Rn)))))),cB (cA (cB (cA (cB (cB (Rn)))))))]:=by kernel_rfl
theorem anP:cZ wQ 270 Rn:=qI Rn (by rw[anw];exact(aC ⟨(fun _=>(show nP 270 4=some (cA (cA (cB (cA (cB (cB (Rn)))))),cB (cA (cB (cA (cB (cB (Rn))))))) by kernel_rfl)),aN⟩)) (by rw[am4];exact aN)
theorem VI:bZ xR=[Hz]:=by kernel_rfl
theorem VO:cZ wQ 159 xR:=bP xR (fun _=>rfl) (by rw[VI];exact(aC ⟨fL (by kernel_rfl) (Rx),aN⟩))
theorem W9:bZ xE=[Ig]:=by kernel_rfl
theorem VF:cZ wQ 219 xE:=bP xE (fun _=>rfl) (by rw[W9];exact(aC ⟨fL (by kernel_rfl) (TE),aN⟩))
theorem Xr:bZ wK=[IE]:=by kernel_rfl
theorem X0:cZ wQ 224 wK:=bP wK (fun _=>rfl) (by rw[Xr];exact(aC ⟨fL (by kernel_rfl) (Tm),aN⟩))
theorem acm:bJ wQ:=dQ tok mixed bV (sg:=[(158,WU),(222,XJ),(280,Xc)]) (aC ⟨(ac9),(aC ⟨(aaZ),(aC ⟨(abA),aN⟩)⟩)⟩) [270,159,219,224] (by kernel_rfl) (by kernel_rfl) (aC ⟨⟨Tryz.f270,Rn,by kernel_rfl,by kernel_rfl,anP⟩,(aC ⟨⟨Tryz.f159,xR,by kernel_rfl,by kernel_rfl,VO⟩,(aC ⟨⟨Tryz.f219,xE,by kernel_rfl,by kernel_rfl,VF⟩,(aC ⟨⟨Tryz.f224,wK,by kernel_rfl,by kernel_rfl,X0⟩,aN⟩)⟩)⟩)⟩) bW bC
theorem abE:bD Tryz.prog 270 XE:=ed acm (by decide) fun x=>by kernel_rfl
def Ti (x0:List UInt8) (x1:Int) (x2:Int×(List ((List UInt8)×(Bool×Unit)))×(Bool×Unit)):Option ((Int×(List ((List UInt8)×(Bool×Unit)))×(Bool×Unit))×Unit):=
 ai (mV x2.2.1) fun y0=>
  bif(aH x1 1)then
   some ((x2.1,(y0.1,(false,()))),())
  else
  bif(aH x1 2)then
   some ((0,(y0.1,((fD 0 (ah y0.1)),()))),())
  else
  bif(aH x1 4)then
   ai (UO x0) fun y1=>
    bif(aH y1.1 4)then
     some ((y1.1,(y0.1,(false,()))),())
    else
    bif(aH y1.1 5)then
     some ((y1.1,(y0.1,(false,()))),())
    else
    some ((0,(y0.1,(false,()))),())
  else
  bif(aH x1 6)then
   bif(!(aH x2.1 0))then
    ai (ZL x0) fun y1=>
     bif(cO x0 x0)then
      bif(aH x2.1 x2.1)then
       bif(fF (aH x2.1 5) (aH x2.1 5))then
        bif(((cO x0 x0)&&true)&&((cO y1.1 y1.1)&&true))then
         bif(aZ (az y0.1 [(y1.1,((aH x2.1 5),()))]) 24)then
          bif(cO x0 x0)then
           bif(aH x2.1 x2.1)then
            bif(fF (aH x2.1 5) (aH x2.1 5))then
             bif((cO y1.1 y1.1)&&((fF (aH x2.1 5) (aH x2.1 5))&&true))then
              some ((0,((az y0.1 [(y1.1,((aH x2.1 5),()))]),(false,()))),())
             else
             none
            else
            none
           else
           none
          else
          none
         else
         none
        else
        none
       else
       none
      else
      none
     else
     none
   else
   some ((0,(y0.1,(false,()))),())
  else
  some ((0,(y0.1,(false,()))),())
def Vw:Sum:=(⟨[.str,.int .i64,.pair (.int .i64) (.pair (.list (.pair .str (.pair .bool .unit))) (.pair .bool .unit))],[(.pair (.int .i64) (.pair (.list (.pair .str (.pair .bool .unit))) (.pair .bool .unit)),false)],fun x=>Ti x.1 x.2.1 x.2.2.1⟩:Sum)
noncomputable def alC:Env:=dI Tryz.prog tt 212 [(227,Ju),(262,lJ),(270,XE)] [] []
theorem aaB:bJ alC:=bz tok mixed bV (sg:=[(227,Ju),(262,lJ),(270,XE)]) (aC ⟨(Ky),(aC ⟨(qi),(aC ⟨(abE),aN⟩)⟩)⟩) (fn:=Tryz.f212) (c:=(Tryz.f212.body).getD .skip) (by kernel_rfl) (by kernel_rfl) (aS (fun _=>rfl) (fun _=>rfl) _) bW bC
theorem aba:bD Tryz.prog 212 Vw:=ed aaB (by decide) fun x=>by kernel_rfl
def YX (x0:List UInt8) (x1:Int) (x2:Int×(List ((List UInt8)×(Bool×Unit)))×(Bool×Unit)):Option ((Int×Int×Int×Bool×Unit)×(Int×(List ((List UInt8)×(Bool×Unit)))×(Bool×Unit))×Unit):=
 bif(fD x1 0)then
  bif((aH x2.1 x2.1)&&((dR (.pair .str (.pair .bool .unit)) x2.2.1 x2.2.1)&&((fF x2.2.2.1 x2.2.2.1)&&true)))then
   some ((0,(0,(0,(false,())))),((x2.1,(x2.2.1,(x2.2.2.1,()))),()))
  else
  none
 else
 bif(leI (ah x0) x1)then
  bif((aH x2.1 x2.1)&&((dR (.pair .str (.pair .bool .unit)) x2.2.1 x2.2.1)&&((fF x2.2.2.1 x2.2.2.1)&&true)))then
   some ((0,(0,(0,(false,())))),((x2.1,(x2.2.1,(x2.2.2.1,()))),()))
  else
  none
 else
 bif x2.2.2.1 then
  bif(fD 0 (ah x2.2.1))then
   ai (ahr x0 x1 (x2.1,(x2.2.1,(x2.2.2.1,())))) fun y0=>
    some ((y0.1.1,(y0.1.2.1,(y0.1.2.2.1,(y0.1.2.2.2.1,())))),((y0.2.1.1,(y0.2.1.2.1,(y0.2.1.2.2.1,()))),()))
  else
  ai (RQ x0 x1) fun y0=>
   bif(bu (ah x0) y0.1.2.1 y0.1.2.2.1)then
    ai (Ti (sub x0 y0.1.2.1 y0.1.2.2.1) y0.1.1 (x2.1,(x2.2.1,(x2.2.2.1,())))) fun y1=>
     bif((aH y0.1.1 y0.1.1)&&((aH y0.1.2.1 y0.1.2.1)&&((aH y0.1.2.2.1 y0.1.2.2.1)&&((fF y0.1.2.2.2.1 y0.1.2.2.2.1)&&true))))then
      bif(cO x0 x0)then
       bif(aH y0.1.2.1 y0.1.2.1)then
        bif(aH y0.1.2.2.1 y0.1.2.2.1)then
         bif(cO x0 x0)then
          bif(aH y0.1.2.1 y0.1.2.1)then
           bif(aH y0.1.2.2.1 y0.1.2.2.1)then
            bif(bu (ah x0) y0.1.2.1 y0.1.2.2.1)then
             bif(cO (sub x0 y0.1.2.1 y0.1.2.2.1) (sub x0 y0.1.2.1 y0.1.2.2.1))then
              bif(aH y0.1.1 y0.1.1)then
               bif((aH x2.1 x2.1)&&((dR (.pair .str (.pair .bool .unit)) x2.2.1 x2.2.1)&&((fF x2.2.2.1 x2.2.2.1)&&true)))then
                some ((y0.1.1,(y0.1.2.1,(y0.1.2.2.1,(y0.1.2.2.2.1,())))),((y1.1.1,(y1.1.2.1,(y1.1.2.2.1,()))),()))
               else
               none
              else
              none
             else
             none
            else
            none
           else
           none
          else
          none
         else
         none
        else
        none
       else
       none
      else
      none
     else
     none
   else
   none
 else
 ai (RQ x0 x1) fun y0=>
  bif(bu (ah x0) y0.1.2.1 y0.1.2.2.1)then
   ai (Ti (sub x0 y0.1.2.1 y0.1.2.2.1) y0.1.1 (x2.1,(x2.2.1,(x2.2.2.1,())))) fun y1=>
    bif((aH y0.1.1 y0.1.1)&&((aH y0.1.2.1 y0.1.2.1)&&((aH y0.1.2.2.1 y0.1.2.2.1)&&((fF y0.1.2.2.2.1 y0.1.2.2.2.1)&&true))))then
     bif(cO x0 x0)then
      bif(aH y0.1.2.1 y0.1.2.1)then
       bif(aH y0.1.2.2.1 y0.1.2.2.1)then
        bif(cO x0 x0)then
         bif(aH y0.1.2.1 y0.1.2.1)then
          bif(aH y0.1.2.2.1 y0.1.2.2.1)then
           bif(bu (ah x0) y0.1.2.1 y0.1.2.2.1)then
            bif(cO (sub x0 y0.1.2.1 y0.1.2.2.1) (sub x0 y0.1.2.1 y0.1.2.2.1))then
             bif(aH y0.1.1 y0.1.1)then
              bif((aH x2.1 x2.1)&&((dR (.pair .str (.pair .bool .unit)) x2.2.1 x2.2.1)&&((fF x2.2.2.1 x2.2.2.1)&&true)))then
               some ((y0.1.1,(y0.1.2.1,(y0.1.2.2.1,(y0.1.2.2.2.1,())))),((y1.1.1,(y1.1.2.1,(y1.1.2.2.1,()))),()))
              else
              none
             else
             none
            else
            none
           else
           none
          else
          none
         else
         none
        else
        none
       else
       none
      else
      none
     else
     none
    else
    none
  else
  none
def Vr:Sum:=(⟨[.str,.int .i64,.pair (.int .i64) (.pair (.list (.pair .str (.pair .bool .unit))) (.pair .bool .unit))],[(.pair (.int .i64) (.pair (.int .i64) (.pair (.int .i64) (.pair .bool .unit))),false),(.pair (.int .i64) (.pair (.list (.pair .str (.pair .bool .unit))) (.pair .bool .unit)),false)],fun x=>YX x.1 x.2.1 x.2.2.1⟩:Sum)
noncomputable def ant:Env:=dI Tryz.prog tt 146 [(210,Yd),(211,X8),(212,Vw)] [] []
theorem aaD:bJ ant:=bz tok mixed bV (sg:=[(210,Yd),(211,X8),(212,Vw)]) (aC ⟨(aat),(aC ⟨(aaU),(aC ⟨(aba),aN⟩)⟩)⟩) (fn:=Tryz.f146) (c:=(Tryz.f146.body).getD .skip) (by kernel_rfl) (by kernel_rfl) (aS (fun _=>rfl) (fun _=>rfl) _) bW bC
theorem abV:bD Tryz.prog 146 Vr:=ed aaD (by decide) fun x=>by kernel_rfl
noncomputable def b59:Code:=(Tryz.f59.body).getD .skip
noncomputable def Cm:Code:=(Tryz.f183.body).getD .skip
noncomputable def MO:Code:=cA (cA (cB (cB (cB (Cm)))))
def KD:dB:=⟨[0,1,3,4,5,184000003],[(100000501,.pair (.list .unit) (.pair .unit (.pair .str (.pair .bool .unit)))),(300000301,.pair (.list .unit) (.pair .unit (.pair .str (.pair .bool .unit))))],[],[],[],[]⟩
def anU:dB:=⟨[2,3,4,5],[],[],[],[],[]⟩
def am0:dB:=⟨[0,2,3,4,5],[],[],[],[],[]⟩
def WT:dB:=⟨[0,1,3,4],[],[],[],[],[]⟩
def yO:SQ:=⟨us [.yld 1700010,.ptr 2000001 0,.u,.ptr 3000003 0,.ptr 3000004 0,.v (.int .i64)] 18,[us [.u,.u,.nils,.ptr 1000003 0,.ptr 1000004 0,.ptr 1000005 0] 13,[.yld 1700010],[]],[.box 3000004 46 [.v (.int .i64),.v (.int .i64),.v (.int .i64),.v .bool],.box 3000003 91 [.v (.int .i64),.v (.list (.pair .str (.pair .bool .unit))),.v .bool],.box 2000001 9 [.v .str],.lp 1700010 59 (us [.u,.u,.nils,.ptr 1000003 0,.ptr 1000004 0,.ptr 1000005 0] 13) [10,11] 6 0 none,.arr 1500004 (.pair (.int .i64) (.pair (.int .i64) (.pair (.int .i64) (.pair .bool .unit)))),.box 1000005 91 [.v (.int .i64),.v (.list (.pair .str (.pair .bool .unit))),.v .bool],.box 1000004 42 [.slc 1500004],.box 1000003 91 [.v (.int .i64),.nils,.v .bool]]⟩
def zJ:SQ:=⟨us [] 24,[us [.u,.u,.nils,.ptr 1000003 0,.ptr 1000004 0,.ptr 1000005 0] 13,[.yld 1700010],[]],[.box 2000001 9 [.v .str],.lp 1700010 59 (us [.u,.u,.nils,.ptr 1000003 0,.ptr 1000004 0,.ptr 1000005 0] 13) [10,11] 6 0 none,.arr 1500004 (.pair (.int .i64) (.pair (.int .i64) (.pair (.int .i64) (.pair .bool .unit)))),.box 1000005 91 [.v (.int .i64),.v (.list (.pair .str (.pair .bool .unit))),.v .bool],.box 1000004 42 [.slc 1500004],.box 1000003 91 [.v (.int .i64),.nils,.v .bool]]⟩
def Am:SQ:=⟨us [] 24,[us [.u,.u,.nils,.ptr 1000003 0,.ptr 1000004 0,.ptr 1000005 0] 13,[.yld 1700010],[]],[]⟩
def vX {γ:Type} (rec:Int->Int->Int->Int->Bool->Int->(List ((List UInt8)×(Bool×Unit)))->Bool->(List UInt8)->(List (Int×Int×Int×Bool×Unit))->Int->(List ((List UInt8)×(Bool×Unit)))->Bool->Int->Bool->Option γ) (kE:(List UInt8)->(List (Int×Int×Int×Bool×Unit))->Int->(List ((List UInt8)×(Bool×Unit)))->Bool->Int->Bool->Option γ) (kR:Option γ) (v0:Int) (v1:Int) (v2:Int) (v3:Int) (v4:Bool) (v5:Int) (v6:List ((List UInt8)×(Bool×Unit))) (v7:Bool) (v8:List UInt8) (v9:List (Int×Int×Int×Bool×Unit)) (v10:Int) (v11:List ((List UInt8)×(Bool×Unit))) (v12:Bool) (v13:Int) (v14:Bool):Option γ:=
 bif(fD v0 (ah v8))then
  ai (YX v8 v0 (v5,(v6,(v7,())))) fun y0=>
   bif((aH y0.2.1.1 y0.2.1.1)&&((dR (.pair .str (.pair .bool .unit)) y0.2.1.2.1 y0.2.1.2.1)&&((fF y0.2.1.2.2.1 y0.2.1.2.2.1)&&true)))then
    bif(aZ (az v9 [(y0.1.1,(y0.1.2.1,(y0.1.2.2.1,(y0.1.2.2.2.1,()))))]) 32)then
     bif((aH y0.1.1 y0.1.1)&&((aH y0.1.2.1 y0.1.2.1)&&((aH y0.1.2.2.1 y0.1.2.2.1)&&((fF y0.1.2.2.2.1 y0.1.2.2.2.1)&&true))))then
      bif((aH y0.2.1.1 y0.2.1.1)&&((dR (.pair .str (.pair .bool .unit)) y0.2.1.2.1 y0.2.1.2.1)&&((fF y0.2.1.2.2.1 y0.2.1.2.2.1)&&true)))then
       bif((aH y0.2.1.1 y0.2.1.1)&&((dR (.pair .str (.pair .bool .unit)) y0.2.1.2.1 y0.2.1.2.1)&&((fF y0.2.1.2.2.1 y0.2.1.2.2.1)&&true)))then
        rec y0.1.2.2.1 y0.1.1 y0.1.2.1 y0.1.2.2.1 y0.1.2.2.2.1 y0.2.1.1 y0.2.1.2.1 y0.2.1.2.2.1 v8 (az v9 [(y0.1.1,(y0.1.2.1,(y0.1.2.2.1,(y0.1.2.2.2.1,()))))]) y0.2.1.1 y0.2.1.2.1 y0.2.1.2.2.1 v13 v14
       else
       none
      else
      none
     else
     none
    else
    none
   else
   none
 else
 kE v8 v9 v10 v11 v12 v13 v14
def lm:Nat->Int->Int->Int->Int->Bool->Int->(List ((List UInt8)×(Bool×Unit)))->Bool->(List UInt8)->(List (Int×Int×Int×Bool×Unit))->Int->(List ((List UInt8)×(Bool×Unit)))->Bool->Int->Bool->Option (zJ.den⊕Am.den)
 |0,_,_,_,_,_,_,_,_,_,_,_,_,_,_,_=>none
 |n+1,v0,v1,v2,v3,v4,v5,v6,v7,v8,v9,v10,v11,v12,v13,v14=>vX (lm n) (fun e0 e1 e2 e3 e4 e5 e6=>some (.inl ((),((),(),(),()),((e0,()),(),e1,(e2,e3,e4,()),(),(e5,e6,()),())))) (some (.inr ((),((),(),(),()),()))) v0 v1 v2 v3 v4 v5 v6 v7 v8 v9 v10 v11 v12 v13 v14
noncomputable def GK:bG:=gQ KD yO zJ Am (.exit 0) (fun v=>lm aO v.1.1 v.2.2.1.1 v.2.2.1.2.1 v.2.2.1.2.2.1 v.2.2.1.2.2.2.1 v.2.2.2.1.1 v.2.2.2.1.2.1 v.2.2.2.1.2.2.1 v.2.2.2.2.1.1 v.2.2.2.2.2.2.1 v.2.2.2.2.2.2.2.1.1 v.2.2.2.2.2.2.2.1.2.1 v.2.2.2.2.2.2.2.1.2.2.1 v.2.2.2.2.2.2.2.2.2.1.1 v.2.2.2.2.2.2.2.2.2.1.2.1) 6
def aiZ (x0:List UInt8):Option ((List (Int×Int×Int×Bool×Unit))×(Int×(List ((List UInt8)×(Bool×Unit)))×(Bool×Unit))×Unit):=
 ai (lm aO 0 0 0 0 false 0 [] false x0 [] 0 [] false 0 false) fun y0=>
  bF y0 (fun a1=>
   some (a1.2.2.2.2.1,((a1.2.2.2.2.2.1.1,(a1.2.2.2.2.2.1.2.1,(a1.2.2.2.2.2.1.2.2.1,()))),()))) (fun b1=>
   none)
def aeR:Sum:=(⟨[.str],[(.list (.pair (.int .i64) (.pair (.int .i64) (.pair (.int .i64) (.pair .bool .unit)))),false),(.pair (.int .i64) (.pair (.list (.pair .str (.pair .bool .unit))) (.pair .bool .unit)),false)],fun x=>aiZ x.1⟩:Sum)
noncomputable def Zb:Env:=fV Tryz.prog tt [(146,Vr)] [(183,3,KD),(59,500006,anU),(59,600003,am0),(183,600006,WT)] [(183,3,GK)] [59]
def G5 {γ:Type} (a:yO.den->Option γ) (b:zJ.den->Option γ) (c:Am.den->Option γ) (v:yO.den):Option γ:=vX (fun v0 v1 v2 v3 v4 v5 v6 v7 v8 v9 v10 v11 v12 v13 v14=>a ((v0,()),((),(),(),()),((v1,v2,v3,v4,()),(v5,v6,v7,()),(v8,()),(),v9,(v10,v11,v12,()),(),(v13,v14,()),()))) (fun e0 e1 e2 e3 e4 e5 e6=>b ((),((),(),(),()),((e0,()),(),e1,(e2,e3,e4,()),(),(e5,e6,()),()))) (c ((),((),(),(),()),())) v.1.1 v.2.2.1.1 v.2.2.1.2.1 v.2.2.1.2.2.1 v.2.2.1.2.2.2.1 v.2.2.2.1.1 v.2.2.2.1.2.1 v.2.2.2.1.2.2.1 v.2.2.2.2.1.1 v.2.2.2.2.2.2.1 v.2.2.2.2.2.2.2.1.1 v.2.2.2.2.2.2.2.1.2.1 v.2.2.2.2.2.2.2.1.2.2.1 v.2.2.2.2.2.2.2.2.2.1.1 v.2.2.2.2.2.2.2.2.2.1.2.1
theorem WY:di Zb 183 MO GK:=Fq (G5) (lp:=fun n (v:yO.den)=>lm n v.1.1 v.2.2.1.1 v.2.2.1.2.1 v.2.2.1.2.2.1 v.2.2.1.2.2.2.1 v.2.2.2.1.1 v.2.2.2.1.2.1 v.2.2.2.1.2.2.1 v.2.2.2.2.1.1 v.2.2.2.2.2.2.1 v.2.2.2.2.2.2.2.1.1 v.2.2.2.2.2.2.2.1.2.1 v.2.2.2.2.2.2.2.1.2.2.1 v.2.2.2.2.2.2.2.2.2.1.1 v.2.2.2.2.2.2.2.2.2.1.2.1) (by kernel_rfl) (fun _=>rfl) (fun _ _=>rfl) (fun d n K v=>by kernel_rfl) (by intros;simp only[G5,vX,bn,bg,ae,aV,bi])
theorem ao1:bZ b59=[]:=by kernel_rfl
theorem aop:iL b59=[(cA (cA (cB (cA (cB (cB (cB (b59))))))),cB (cA (cB (cA (cB (cB (cB (b59))))))))]:=by kernel_rfl
theorem asN:cZ Zb 59 b59:=qI b59 (by rw[aop];exact(aC ⟨(fun _=>(show nP 59 6=some (cA (cA (cB (cA (cB (cB (cB (b59))))))),cB (cA (cB (cA (cB (cB (cB (b59)))))))) by kernel_rfl)),aN⟩)) (by rw[ao1];exact aN)
theorem acF:bZ Cm=[MO]:=by kernel_rfl
theorem acl:cZ Zb 183 Cm:=bP Cm (fun _=>rfl) (by rw[acF];exact(aC ⟨fL (by kernel_rfl) (WY),aN⟩))
theorem agt:bJ Zb:=dQ tok mixed bV (sg:=[(146,Vr)]) (aC ⟨(abV),aN⟩) [59,183] (by kernel_rfl) (by kernel_rfl) (aC ⟨⟨Tryz.f59,b59,by kernel_rfl,by kernel_rfl,asN⟩,(aC ⟨⟨Tryz.f183,Cm,by kernel_rfl,by kernel_rfl,acl⟩,aN⟩)⟩) bW bC
theorem aey:bD Tryz.prog 59 aeR:=ed agt (by decide) fun x=>by kernel_rfl
def Jz (x0:List UInt8) (x1:Int×Int×Int×Bool×Unit):Option ((List UInt8)×Unit):=
 bif(fD x1.2.1 0)then
  some ([],())
 else
 bif(fD x1.2.2.1 x1.2.1)then
  some ([],())
 else
 bif(fD (ah x0) x1.2.2.1)then
  some ([],())
 else
 bif(bu (ah x0) x1.2.1 x1.2.2.1)then
  some ((sub x0 x1.2.1 x1.2.2.1),())
 else
 none
def XK:Sum:=(⟨[.str,.pair (.int .i64) (.pair (.int .i64) (.pair (.int .i64) (.pair .bool .unit)))],[(.str,false)],fun x=>Jz x.1 x.2.1⟩:Sum)
noncomputable def amo:Env:=dI Tryz.prog tt 117 [] [] []
theorem abz:bJ amo:=bz tok mixed bV (sg:=[]) aN (fn:=Tryz.f117) (c:=(Tryz.f117.body).getD .skip) (by kernel_rfl) (by kernel_rfl) (aS (fun _=>rfl) (fun _=>rfl) _) bW bC
theorem abq:bD Tryz.prog 117 XK:=ed abz (by decide) fun x=>by kernel_rfl
noncomputable def b60:Code:=(Tryz.f60.body).getD .skip
noncomputable def akD:Code:=cA (cA (cB (cA (cB (b60)))))
def akK:dB:=⟨[0,4,7,8,9,100002],[(4,(.pair (.int .i64) (.pair .str (.pair (.int .i64) (.pair (.int .i64) .unit)))))],[4],[],[4],[(4,(.pair (.int .i64) (.pair .str (.pair (.int .i64) (.pair (.int .i64) .unit)))))]⟩
def aai:SP:=⟨us [.v .str,.u,.u,.u,.slc 1800004,.u,.u,.v (.list (.pair (.int .i64) (.pair (.int .i64) (.pair (.int .i64) (.pair .bool .unit))))),.v (.int .i64),.v (.int .i64)] 42,[.arr 1800004 (.pair (.int .i64) (.pair .str (.pair (.int .i64) (.pair (.int .i64) .unit))))]⟩
def Vl:SP:=⟨us [.u,.u,.u,.u,.slc 1800004] 47,[.arr 1800004 (.pair (.int .i64) (.pair .str (.pair (.int .i64) (.pair (.int .i64) .unit))))]⟩
def XN:SP:=⟨us [.u,.u,.u,.u,.v (.list (.pair (.int .i64) (.pair .str (.pair (.int .i64) (.pair (.int .i64) .unit)))))] 47,[]⟩
def Pj {γ:Type} (rec:(List UInt8)->(List (Int×Int×Int×Bool×Unit))->Int->Int->(List (Int×(List UInt8)×(Int×Int×Unit)))->Option γ) (kE:(List (Int×(List UInt8)×(Int×Int×Unit)))->Option γ) (kR:(List (Int×(List UInt8)×(Int×Int×Unit)))->Option γ) (v0:List UInt8) (v1:List (Int×Int×Int×Bool×Unit)) (v2:Int) (v3:Int) (v4:List (Int×(List UInt8)×(Int×Int×Unit))):Option γ:=
 bif(fD v3 v2)then
  bif(dX v1 v3)then
   bif(fD (af v1 (0,(0,(0,(false,())))) v3).2.1 0)then
    rec v0 v1 v2 (aG .i64 v3 1) v4
   else
   bif(fD (af v1 (0,(0,(0,(false,())))) v3).2.2.1 (af v1 (0,(0,(0,(false,())))) v3).2.1)then
    rec v0 v1 v2 (aG .i64 v3 1) v4
   else
   bif(fD (ah v0) (af v1 (0,(0,(0,(false,())))) v3).2.2.1)then
    rec v0 v1 v2 (aG .i64 v3 1) v4
   else
   bif(aH (af v1 (0,(0,(0,(false,())))) v3).1 4)then
    bif(aH (af v1 (0,(0,(0,(false,())))) v3).1 4)then
     ai (Jz v0 ((af v1 (0,(0,(0,(false,())))) v3).1,((af v1 (0,(0,(0,(false,())))) v3).2.1,((af v1 (0,(0,(0,(false,())))) v3).2.2.1,((af v1 (0,(0,(0,(false,())))) v3).2.2.2.1,()))))) fun y0=>
      bif(aH (af v1 (0,(0,(0,(false,())))) v3).1 (af v1 (0,(0,(0,(false,())))) v3).1)then
       bif(cO v0 v0)then
        bif((aH (af v1 (0,(0,(0,(false,())))) v3).1 (af v1 (0,(0,(0,(false,())))) v3).1)&&((aH (af v1 (0,(0,(0,(false,())))) v3).2.1 (af v1 (0,(0,(0,(false,())))) v3).2.1)&&((aH (af v1 (0,(0,(0,(false,())))) v3).2.2.1 (af v1 (0,(0,(0,(false,())))) v3).2.2.1)&&((fF (af v1 (0,(0,(0,(false,())))) v3).2.2.2.1 (af v1 (0,(0,(0,(false,())))) v3).2.2.2.1)&&true))))then
         bif(aH (af v1 (0,(0,(0,(false,())))) v3).2.1 (af v1 (0,(0,(0,(false,())))) v3).2.1)then
          bif(aH (af v1 (0,(0,(0,(false,())))) v3).2.2.1 (af v1 (0,(0,(0,(false,())))) v3).2.2.1)then
           bif(((cO v0 v0)&&(((aH (af v1 (0,(0,(0,(false,())))) v3).1 (af v1 (0,(0,(0,(false,())))) v3).1)&&((aH (af v1 (0,(0,(0,(false,())))) v3).2.1 (af v1 (0,(0,(0,(false,())))) v3).2.1)&&((aH (af v1 (0,(0,(0,(false,())))) v3).2.2.1 (af v1 (0,(0,(0,(false,())))) v3).2.2.1)&&((fF (af v1 (0,(0,(0,(false,())))) v3).2.2.2.1 (af v1 (0,(0,(0,(false,())))) v3).2.2.2.1)&&true))))&&true))&&((cO y0.1 y0.1)&&true))then
            bif(aZ (az v4 [((af v1 (0,(0,(0,(false,())))) v3).1,(y0.1,((af v1 (0,(0,(0,(false,())))) v3).2.1,((af v1 (0,(0,(0,(false,())))) v3).2.2.1,()))))]) 40)then
             bif(aH (af v1 (0,(0,(0,(false,())))) v3).1 (af v1 (0,(0,(0,(false,())))) v3).1)then
              bif(cO v0 v0)then
               bif((aH (af v1 (0,(0,(0,(false,())))) v3).1 (af v1 (0,(0,(0,(false,())))) v3).1)&&((aH (af v1 (0,(0,(0,(false,())))) v3).2.1 (af v1 (0,(0,(0,(false,())))) v3).2.1)&&((aH (af v1 (0,(0,(0,(false,())))) v3).2.2.1 (af v1 (0,(0,(0,(false,())))) v3).2.2.1)&&((fF (af v1 (0,(0,(0,(false,())))) v3).2.2.2.1 (af v1 (0,(0,(0,(false,())))) v3).2.2.2.1)&&true))))then
                bif(aH (af v1 (0,(0,(0,(false,())))) v3).2.1 (af v1 (0,(0,(0,(false,())))) v3).2.1)then
                 bif(aH (af v1 (0,(0,(0,(false,())))) v3).2.2.1 (af v1 (0,(0,(0,(false,())))) v3).2.2.1)then
                  bif((aH (af v1 (0,(0,(0,(false,())))) v3).1 (af v1 (0,(0,(0,(false,())))) v3).1)&&((cO y0.1 y0.1)&&((aH (af v1 (0,(0,(0,(false,())))) v3).2.1 (af v1 (0,(0,(0,(false,())))) v3).2.1)&&((aH (af v1 (0,(0,(0,(false,())))) v3).2.2.1 (af v1 (0,(0,(0,(false,())))) v3).2.2.1)&&true))))then
                   rec v0 v1 v2 (aG .i64 v3 1) (az v4 [((af v1 (0,(0,(0,(false,())))) v3).1,(y0.1,((af v1 (0,(0,(0,(false,())))) v3).2.1,((af v1 (0,(0,(0,(false,())))) v3).2.2.1,()))))])
                  else
                  none
                 else
                 none
                else
                none
               else
               none
              else
              none
             else
             none
            else
            none
           else
           none
          else
          none
         else
         none
        else
        none
       else
       none
      else
      none
    else
    rec v0 v1 v2 (aG .i64 v3 1) v4
   else
   bif(aH (af v1 (0,(0,(0,(false,())))) v3).1 5)then
    bif(aH (af v1 (0,(0,(0,(false,())))) v3).1 5)then
     ai (Jz v0 ((af v1 (0,(0,(0,(false,())))) v3).1,((af v1 (0,(0,(0,(false,())))) v3).2.1,((af v1 (0,(0,(0,(false,())))) v3).2.2.1,((af v1 (0,(0,(0,(false,())))) v3).2.2.2.1,()))))) fun y0=>
      bif(aH (af v1 (0,(0,(0,(false,())))) v3).1 (af v1 (0,(0,(0,(false,())))) v3).1)then
       bif(cO v0 v0)then
        bif((aH (af v1 (0,(0,(0,(false,())))) v3).1 (af v1 (0,(0,(0,(false,())))) v3).1)&&((aH (af v1 (0,(0,(0,(false,())))) v3).2.1 (af v1 (0,(0,(0,(false,())))) v3).2.1)&&((aH (af v1 (0,(0,(0,(false,())))) v3).2.2.1 (af v1 (0,(0,(0,(false,())))) v3).2.2.1)&&((fF (af v1 (0,(0,(0,(false,())))) v3).2.2.2.1 (af v1 (0,(0,(0,(false,())))) v3).2.2.2.1)&&true))))then
         bif(aH (af v1 (0,(0,(0,(false,())))) v3).2.1 (af v1 (0,(0,(0,(false,())))) v3).2.1)then
          bif(aH (af v1 (0,(0,(0,(false,())))) v3).2.2.1 (af v1 (0,(0,(0,(false,())))) v3).2.2.1)then
           bif(((cO v0 v0)&&(((aH (af v1 (0,(0,(0,(false,())))) v3).1 (af v1 (0,(0,(0,(false,())))) v3).1)&&((aH (af v1 (0,(0,(0,(false,())))) v3).2.1 (af v1 (0,(0,(0,(false,())))) v3).2.1)&&((aH (af v1 (0,(0,(0,(false,())))) v3).2.2.1 (af v1 (0,(0,(0,(false,())))) v3).2.2.1)&&((fF (af v1 (0,(0,(0,(false,())))) v3).2.2.2.1 (af v1 (0,(0,(0,(false,())))) v3).2.2.2.1)&&true))))&&true))&&((cO y0.1 y0.1)&&true))then
            bif(aZ (az v4 [((af v1 (0,(0,(0,(false,())))) v3).1,(y0.1,((af v1 (0,(0,(0,(false,())))) v3).2.1,((af v1 (0,(0,(0,(false,())))) v3).2.2.1,()))))]) 40)then
             bif(aH (af v1 (0,(0,(0,(false,())))) v3).1 (af v1 (0,(0,(0,(false,())))) v3).1)then
              bif(cO v0 v0)then
               bif((aH (af v1 (0,(0,(0,(false,())))) v3).1 (af v1 (0,(0,(0,(false,())))) v3).1)&&((aH (af v1 (0,(0,(0,(false,())))) v3).2.1 (af v1 (0,(0,(0,(false,())))) v3).2.1)&&((aH (af v1 (0,(0,(0,(false,())))) v3).2.2.1 (af v1 (0,(0,(0,(false,())))) v3).2.2.1)&&((fF (af v1 (0,(0,(0,(false,())))) v3).2.2.2.1 (af v1 (0,(0,(0,(false,())))) v3).2.2.2.1)&&true))))then
                bif(aH (af v1 (0,(0,(0,(false,())))) v3).2.1 (af v1 (0,(0,(0,(false,())))) v3).2.1)then
                 bif(aH (af v1 (0,(0,(0,(false,())))) v3).2.2.1 (af v1 (0,(0,(0,(false,())))) v3).2.2.1)then
                  bif((aH (af v1 (0,(0,(0,(false,())))) v3).1 (af v1 (0,(0,(0,(false,())))) v3).1)&&((cO y0.1 y0.1)&&((aH (af v1 (0,(0,(0,(false,())))) v3).2.1 (af v1 (0,(0,(0,(false,())))) v3).2.1)&&((aH (af v1 (0,(0,(0,(false,())))) v3).2.2.1 (af v1 (0,(0,(0,(false,())))) v3).2.2.1)&&true))))then
                   rec v0 v1 v2 (aG .i64 v3 1) (az v4 [((af v1 (0,(0,(0,(false,())))) v3).1,(y0.1,((af v1 (0,(0,(0,(false,())))) v3).2.1,((af v1 (0,(0,(0,(false,())))) v3).2.2.1,()))))])
                  else
                  none
                 else
                 none
                else
                none
               else
               none
              else
              none
             else
             none
            else
            none
           else
           none
          else
          none
         else
         none
        else
        none
       else
       none
      else
      none
    else
    rec v0 v1 v2 (aG .i64 v3 1) v4
   else
   bif(aH (af v1 (0,(0,(0,(false,())))) v3).1 6)then
    bif(aH (af v1 (0,(0,(0,(false,())))) v3).1 6)then
     ai (Jz v0 ((af v1 (0,(0,(0,(false,())))) v3).1,((af v1 (0,(0,(0,(false,())))) v3).2.1,((af v1 (0,(0,(0,(false,())))) v3).2.2.1,((af v1 (0,(0,(0,(false,())))) v3).2.2.2.1,()))))) fun y0=>
      bif(aH (af v1 (0,(0,(0,(false,())))) v3).1 (af v1 (0,(0,(0,(false,())))) v3).1)then
       bif(cO v0 v0)then
        bif((aH (af v1 (0,(0,(0,(false,())))) v3).1 (af v1 (0,(0,(0,(false,())))) v3).1)&&((aH (af v1 (0,(0,(0,(false,())))) v3).2.1 (af v1 (0,(0,(0,(false,())))) v3).2.1)&&((aH (af v1 (0,(0,(0,(false,())))) v3).2.2.1 (af v1 (0,(0,(0,(false,())))) v3).2.2.1)&&((fF (af v1 (0,(0,(0,(false,())))) v3).2.2.2.1 (af v1 (0,(0,(0,(false,())))) v3).2.2.2.1)&&true))))then
         bif(aH (af v1 (0,(0,(0,(false,())))) v3).2.1 (af v1 (0,(0,(0,(false,())))) v3).2.1)then
          bif(aH (af v1 (0,(0,(0,(false,())))) v3).2.2.1 (af v1 (0,(0,(0,(false,())))) v3).2.2.1)then
           bif(((cO v0 v0)&&(((aH (af v1 (0,(0,(0,(false,())))) v3).1 (af v1 (0,(0,(0,(false,())))) v3).1)&&((aH (af v1 (0,(0,(0,(false,())))) v3).2.1 (af v1 (0,(0,(0,(false,())))) v3).2.1)&&((aH (af v1 (0,(0,(0,(false,())))) v3).2.2.1 (af v1 (0,(0,(0,(false,())))) v3).2.2.1)&&((fF (af v1 (0,(0,(0,(false,())))) v3).2.2.2.1 (af v1 (0,(0,(0,(false,())))) v3).2.2.2.1)&&true))))&&true))&&((cO y0.1 y0.1)&&true))then
            bif(aZ (az v4 [((af v1 (0,(0,(0,(false,())))) v3).1,(y0.1,((af v1 (0,(0,(0,(false,())))) v3).2.1,((af v1 (0,(0,(0,(false,())))) v3).2.2.1,()))))]) 40)then
             bif(aH (af v1 (0,(0,(0,(false,())))) v3).1 (af v1 (0,(0,(0,(false,())))) v3).1)then
              bif(cO v0 v0)then
               bif((aH (af v1 (0,(0,(0,(false,())))) v3).1 (af v1 (0,(0,(0,(false,())))) v3).1)&&((aH (af v1 (0,(0,(0,(false,())))) v3).2.1 (af v1 (0,(0,(0,(false,())))) v3).2.1)&&((aH (af v1 (0,(0,(0,(false,())))) v3).2.2.1 (af v1 (0,(0,(0,(false,())))) v3).2.2.1)&&((fF (af v1 (0,(0,(0,(false,())))) v3).2.2.2.1 (af v1 (0,(0,(0,(false,())))) v3).2.2.2.1)&&true))))then
                bif(aH (af v1 (0,(0,(0,(false,())))) v3).2.1 (af v1 (0,(0,(0,(false,())))) v3).2.1)then
                 bif(aH (af v1 (0,(0,(0,(false,())))) v3).2.2.1 (af v1 (0,(0,(0,(false,())))) v3).2.2.1)then
                  bif((aH (af v1 (0,(0,(0,(false,())))) v3).1 (af v1 (0,(0,(0,(false,())))) v3).1)&&((cO y0.1 y0.1)&&((aH (af v1 (0,(0,(0,(false,())))) v3).2.1 (af v1 (0,(0,(0,(false,())))) v3).2.1)&&((aH (af v1 (0,(0,(0,(false,())))) v3).2.2.1 (af v1 (0,(0,(0,(false,())))) v3).2.2.1)&&true))))then
                   rec v0 v1 v2 (aG .i64 v3 1) (az v4 [((af v1 (0,(0,(0,(false,())))) v3).1,(y0.1,((af v1 (0,(0,(0,(false,())))) v3).2.1,((af v1 (0,(0,(0,(false,())))) v3).2.2.1,()))))])
                  else
                  none
                 else
                 none
                else
                none
               else
               none
              else
              none
             else
             none
            else
            none
           else
           none
          else
          none
         else
         none
        else
        none
       else
       none
      else
      none
    else
    rec v0 v1 v2 (aG .i64 v3 1) v4
   else
   bif(aH (af v1 (0,(0,(0,(false,())))) v3).1 2)then
    ai (Jz v0 ((af v1 (0,(0,(0,(false,())))) v3).1,((af v1 (0,(0,(0,(false,())))) v3).2.1,((af v1 (0,(0,(0,(false,())))) v3).2.2.1,((af v1 (0,(0,(0,(false,())))) v3).2.2.2.1,()))))) fun y0=>
     bif(aH (af v1 (0,(0,(0,(false,())))) v3).1 (af v1 (0,(0,(0,(false,())))) v3).1)then
      bif(cO v0 v0)then
       bif((aH (af v1 (0,(0,(0,(false,())))) v3).1 (af v1 (0,(0,(0,(false,())))) v3).1)&&((aH (af v1 (0,(0,(0,(false,())))) v3).2.1 (af v1 (0,(0,(0,(false,())))) v3).2.1)&&((aH (af v1 (0,(0,(0,(false,())))) v3).2.2.1 (af v1 (0,(0,(0,(false,())))) v3).2.2.1)&&((fF (af v1 (0,(0,(0,(false,())))) v3).2.2.2.1 (af v1 (0,(0,(0,(false,())))) v3).2.2.2.1)&&true))))then
        bif(aH (af v1 (0,(0,(0,(false,())))) v3).2.1 (af v1 (0,(0,(0,(false,())))) v3).2.1)then
         bif(aH (af v1 (0,(0,(0,(false,())))) v3).2.2.1 (af v1 (0,(0,(0,(false,())))) v3).2.2.1)then
          bif(((cO v0 v0)&&(((aH (af v1 (0,(0,(0,(false,())))) v3).1 (af v1 (0,(0,(0,(false,())))) v3).1)&&((aH (af v1 (0,(0,(0,(false,())))) v3).2.1 (af v1 (0,(0,(0,(false,())))) v3).2.1)&&((aH (af v1 (0,(0,(0,(false,())))) v3).2.2.1 (af v1 (0,(0,(0,(false,())))) v3).2.2.1)&&((fF (af v1 (0,(0,(0,(false,())))) v3).2.2.2.1 (af v1 (0,(0,(0,(false,())))) v3).2.2.2.1)&&true))))&&true))&&((cO y0.1 y0.1)&&true))then
           bif(aZ (az v4 [((af v1 (0,(0,(0,(false,())))) v3).1,(y0.1,((af v1 (0,(0,(0,(false,())))) v3).2.1,((af v1 (0,(0,(0,(false,())))) v3).2.2.1,()))))]) 40)then
            bif(aH (af v1 (0,(0,(0,(false,())))) v3).1 (af v1 (0,(0,(0,(false,())))) v3).1)then
             bif(cO v0 v0)then
              bif((aH (af v1 (0,(0,(0,(false,())))) v3).1 (af v1 (0,(0,(0,(false,())))) v3).1)&&((aH (af v1 (0,(0,(0,(false,())))) v3).2.1 (af v1 (0,(0,(0,(false,())))) v3).2.1)&&((aH (af v1 (0,(0,(0,(false,())))) v3).2.2.1 (af v1 (0,(0,(0,(false,())))) v3).2.2.1)&&((fF (af v1 (0,(0,(0,(false,())))) v3).2.2.2.1 (af v1 (0,(0,(0,(false,())))) v3).2.2.2.1)&&true))))then
               bif(aH (af v1 (0,(0,(0,(false,())))) v3).2.1 (af v1 (0,(0,(0,(false,())))) v3).2.1)then
                bif(aH (af v1 (0,(0,(0,(false,())))) v3).2.2.1 (af v1 (0,(0,(0,(false,())))) v3).2.2.1)then
                 bif((aH (af v1 (0,(0,(0,(false,())))) v3).1 (af v1 (0,(0,(0,(false,())))) v3).1)&&((cO y0.1 y0.1)&&((aH (af v1 (0,(0,(0,(false,())))) v3).2.1 (af v1 (0,(0,(0,(false,())))) v3).2.1)&&((aH (af v1 (0,(0,(0,(false,())))) v3).2.2.1 (af v1 (0,(0,(0,(false,())))) v3).2.2.1)&&true))))then
                  rec v0 v1 v2 (aG .i64 v3 1) (az v4 [((af v1 (0,(0,(0,(false,())))) v3).1,(y0.1,((af v1 (0,(0,(0,(false,())))) v3).2.1,((af v1 (0,(0,(0,(false,())))) v3).2.2.1,()))))])
                 else
                 none
                else
                none
               else
               none
              else
              none
             else
             none
            else
            none
           else
           none
          else
          none
         else
         none
        else
        none
       else
       none
      else
      none
     else
     none
   else
   rec v0 v1 v2 (aG .i64 v3 1) v4
  else
  none
 else
 kE v4
def uQ:Nat->(List UInt8)->(List (Int×Int×Int×Bool×Unit))->Int->Int->(List (Int×(List UInt8)×(Int×Int×Unit)))->Option (Vl.den⊕XN.den)
 |0,_,_,_,_,_=>none
 |n+1,v0,v1,v2,v3,v4=>Pj (uQ n) (fun e0=>some (.inl ((),(e0,())))) (fun r0=>some (.inr ((r0,()),()))) v0 v1 v2 v3 v4
noncomputable def ag1:bG:=dO akK aai Vl XN (.exit 0) (fun v=>uQ aO v.1.1 v.1.2.1 v.1.2.2.1 v.1.2.2.2.1 v.2.1) 6
def anA (x0:List UInt8) (x1:List (Int×Int×Int×Bool×Unit)):Option ((List (Int×(List UInt8)×(Int×Int×Unit)))×Unit):=
 ai (uQ aO x0 x1 (ah x1) 0 []) fun y0=>
  bF y0 (fun a1=>
   some (a1.2.1,())) (fun b1=>
   some (b1.1.1,()))
def apD:Sum:=(⟨[.str,.list (.pair (.int .i64) (.pair (.int .i64) (.pair (.int .i64) (.pair .bool .unit))))],[(.list (.pair (.int .i64) (.pair .str (.pair (.int .i64) (.pair (.int .i64) .unit)))),false)],fun x=>anA x.1 x.2.1⟩:Sum)
noncomputable def agQ:Env:=dI Tryz.prog tt 60 [(117,XK)] [(2,akK)] [(2,ag1)]
def afQ {γ:Type} (a:aai.den->Option γ) (b:Vl.den->Option γ) (c:XN.den->Option γ) (v:aai.den):Option γ:=Pj (fun v0 v1 v2 v3 v4=>a ((v0,v1,v2,v3,()),(v4,()))) (fun e0=>b ((),(e0,()))) (fun r0=>c ((r0,()),())) v.1.1 v.1.2.1 v.1.2.2.1 v.1.2.2.2.1 v.2.1
theorem anQ:di agQ 60 akD ag1:=wG (afQ) (lp:=fun n (v:aai.den)=>uQ n v.1.1 v.1.2.1 v.1.2.2.1 v.1.2.2.2.1 v.2.1) (by kernel_rfl) (fun _=>rfl) (fun _ _=>rfl) (fun d n K v=>by kernel_rfl) (by intros;simp only[afQ,Pj,bn,bg,ae,aV,bi])
theorem aru:bZ b60=[akD]:=by kernel_rfl
theorem aq4:cZ agQ 60 b60:=bP b60 (fun _=>rfl) (by rw[aru];exact(aC ⟨fL (by kernel_rfl) (anQ),aN⟩))
theorem agE:bJ agQ:=bz tok mixed bV (sg:=[(117,XK)]) (aC ⟨(abq),aN⟩) (fn:=Tryz.f60) (c:=b60) (by kernel_rfl) (by kernel_rfl) (aq4) bW bC
theorem asK:bD Tryz.prog 60 apD:=ed agE (by decide) fun x=>by kernel_rfl
end Go.Proofs.YtihafdllichkeaaGreatDoor
namespace Go.Proofs.YtihafdllichkeaaGreatDoor
open Go.RowKit
set_option linter.unusedVariables false
set_option linter.unusedSimpArgs false
set_option maxRecDepth 100000
theorem YW (t:List UInt8):(ak t).length=t.length:=by simp[ak]
theorem zK (t:List UInt8):ofBytes (ak t)=t:=by simp[ofBytes,ak,Function.comp_def]
theorem nz (a b:List UInt8):az (ak a) (ak b)=ak (a++b):=by simp[az,ak]
theorem ati:ak []=([]:List Int):=rfl
theorem OB {s:List UInt8} {i:Int} (h0:0<=i) (h:i<s.length):[aI s i]=ak (sub s i (i+1)):=by
 obtain⟨n,rfl⟩:=Int.eq_ofNat_of_zero_le h0
 have hn:n<s.length:=by omega
 rw[show(n:Int)+1=((n+1:Nat):Int) by omega,tN,List.drop_eq_getElem_cons hn,List.take_succ_cons,List.take_zero,byte_at hn]
 rfl
theorem Yp (M:List (Int×Int)) (a b c:Int):ax (oK M a b) c=if c=a then b else ax M c:=by
 unfold ax
 induction M with
 |nil=>
  unfold oK wI
  by_cases h:c=a
  ·rw[aK (dJ h),if_pos h]
  ·rw[aU (bU h),if_neg h];rfl
 |cons e M ih=>
  obtain⟨k,v⟩:=e
  unfold oK
  by_cases h1:a=k
  ·rw[aK (dJ h1)]
   subst h1
   unfold wI
   by_cases h:c=a
   ·rw[aK (dJ h),if_pos h]
   ·rw[aU (bU h),if_neg h,aU (bU h)]
  ·rw[aU (bU h1)]
   unfold wI
   by_cases h:c=k
   ·rw[aK (dJ h),aK (dJ h),if_neg (by omega)]
   ·rw[aU (bU h),aU (bU h)];exact ih
def EC (M:List (Int×Int)):Nat->List iO->List (Int×Int)
 |_,[]=>M
 |k,p::l=>EC (oK M p.2.1 ((k+1:Nat):Int)) (k+1) l
theorem zX (c:Int): ∀(l:List iO) (M:List (Int×Int)) (k:Nat),l.Pairwise (fun p q=>p.2.1<q.2.1)->
  (qo l c=none/\ax (EC M k l) c=ax M c)\/(∃p,qo l c=some p/\ ∃j,l[j]? =some p/\ax (EC M k l) c=((k+j+1:Nat):Int))
 |[],M,k,_=>.inl ⟨rfl,rfl⟩
 |p::l,M,k,h=>by
  obtain⟨h1,h2⟩:=List.pairwise_cons.1 h
  have ih:=zX c l (oK M p.2.1 ((k+1:Nat):Int)) (k+1) h2
  rw[EC]
  unfold qo at*
  rw[List.find?_cons]
  by_cases e:p.2.1=c
  ·rw[show(p.2.1==c)=true by simpa using e]
   refine .inr ⟨p,rfl,0,rfl, ?_⟩
   rcases ih with ⟨i1,i2⟩|⟨q,i1,j,i2,i3⟩
   ·rw[i2,Yp,if_pos e.symm]
   ·have:=h1 q (List.mem_of_getElem? i2)
    have hq:=List.find?_some i1
    simp only[beq_iff_eq]at hq
    omega
  ·rw[show(p.2.1==c)=false by simpa using e]
   rcases ih with ⟨i1,i2⟩|⟨q,i1,j,i2,i3⟩
   ·exact .inl ⟨i1,by rw[i2,Yp,if_neg (fun h=>e h.symm)]⟩
   ·exact .inr ⟨q,i1,j+1,i2,by rw[i3];congr 1;omega⟩
def FT (s:List UInt8):List (Int×Int):=EC [] 0 (aJ s)
theorem Uj {s:List UInt8} {c:Int} (h:qo (aJ s) c=none):ax (FT s) c=0:=by
 rcases zX c (aJ s) [] 0 (KU s)with ⟨_,h2⟩|⟨p,h1,_⟩
 ·exact h2
 ·rw[h]at h1;cases h1
theorem RV {s:List UInt8} (hs:s.length<=10000) {c:Int} {p:iO} (h:qo (aJ s) c=some p):
  aH (ax (FT s) c) 0=false/\dX (aJ s) (ag .i64 (ax (FT s) c) 1)=true/\af (aJ s) (0,(0,(0,(0,(false,()))))) (ag .i64 (ax (FT s) c) 1)=p:=by
 rcases zX c (aJ s) [] 0 (KU s)with ⟨h1,_⟩|⟨q,h1,j,h2,h3⟩
 ·rw[h]at h1;cases h1
 ·rw[h]at h1;cases h1
  obtain⟨hj,hv⟩:=List.getElem?_eq_some_iff.1 h2
  have hl:=vC s
  unfold FT
  rw[h3,fU (by omega) (by omega),show((0+j+1:Nat):Int)-1=(j:Int) by omega]
  refine⟨bU (by omega),dw (by omega) (by omega), ?_⟩
  unfold af
  rw[Int.toNat_natCast,List.getD_eq_getElem?_getD,h2];rfl
theorem KY (L:List iO) (hl:L.length<1000000) (a b c d:List UInt8) (e:List iO) (f:List Int): ∀(N k:Nat) (M:List (Int×Int)),L.length-k<N->k<=L.length->
  jZ N L (ah L) (k:Int) a b c d e M f=some (.inl ((),((a,b,c,()),(),()),((d,e,()),EC M k (L.drop k),(),f,())))
 |0,k,M,h,_=>by omega
 |N+1,k,M,h,hk=>by
  rw[jZ,rD]
  by_cases e1:k<L.length
  ·have hg:af L (0,(0,(0,(0,(false,()))))) (k:Int)=L[k]:=by
    unfold af
    rw[Int.toNat_natCast,List.getD_eq_getElem?_getD,List.getElem?_eq_getElem e1];rfl
   rw[aK (dM (by rw[aB];omega)),aK (dw (by omega) (by omega)),hg,bI (by omega) (by omega),show(k:Int)+1=((k+1:Nat):Int) by omega,
    KY L hl a b c d e f N (k+1) _ (by omega) (by omega),List.drop_eq_getElem_cons e1,EC]
  ·rw[aU (gm (by rw[aB];omega)),List.drop_of_length_le (by omega)];rfl
theorem agL {p:iO} (h0:0<=p.2.1) (h1:p.2.1<1000000):Ul (p.1,(p.2.1,(p.2.2.1,(p.2.2.2.1,(p.2.2.2.2.1,())))))=some (lone p,()):=by
 rw[Ul,lone]
 simp only
 rw[bI (by omega) (by omega)]
 by_cases h:p.1=12
 ·rw[aK (dJ h)]
  by_cases h2:p.2.2.1=p.2.1+1
  ·rw[dJ h2];simp[h,h2]
  ·rw[bU h2];simp[h2]
 ·rw[aU (bU h)];simp[h]
theorem Uh {s:List UInt8} (hs:s.length<=10000) {p:iO} (pf:PF s p) (h:p.1=4\/p.1=5):
  qF (p.1,(p.2.1,(p.2.2.1,(p.2.2.2.1,(p.2.2.2.2.1,())))))=some (p.2.1+1,(qC p,())):=by
 have h0:=pf.f0
 have h1:=pf.f1
 have h2:=pf.t0
 have h3:=pf.t1
 have h4:=pf.sh
 obtain⟨m,f,t,u,o,⟨⟩⟩:=p
 have hb:qF (m,(f,(t,(u,(o,())))))=bif o then some (aG .i64 f 1,(iK (ag .i64 t 0) (aG .i64 f 1),()))else some (aG .i64 f 1,(iK (ag .i64 t 1) (aG .i64 f 1),())):=by
  rcases h with h|h
  ·simp only at h;subst h;rfl
  ·simp only at h;subst h;rfl
 simp only at h0 h1 h2 h3 h4 h ⊢
 rw[hb]
 unfold qC iK
 cases o with
 |true=>rw[cond_true,bI (by omega) (by omega),fU (by omega) (by omega),Int.sub_zero,if_neg (by omega)];rfl
 |false=>
  have:=h4 rfl (by omega)
  rw[cond_false,bI (by omega) (by omega),fU (by omega) (by omega),if_neg (by omega)];rfl
theorem zf {a:List UInt8} (h:a.length<=140737488355328):aZ (ak a) 1=true:=mg (by rw[YW];omega)
theorem LW (h:List UInt8):(h=[]/\ah (ak h)=0)\/(h≠[]/\0<ah (ak h)):=by
 rw[aB,YW]
 cases h with
 |nil=>exact .inl ⟨rfl,rfl⟩
 |cons a l=>refine .inr ⟨List.cons_ne_nil _ _, ?_⟩;rw[List.length_cons];omega
theorem DF (s:List UInt8) (hs:s.length<=10000) {to_:Int} (hto:to_<=s.length) (B:Int) (hB:B<=10000000000000) (w3:Int) (w4 w5:Bool) (w6:iO) (w7:List UInt8) (w9 w10 w11 w12:Int) (w13:Bool) (w14:List Int) (w18:List UInt8):
  ∀(N:Nat) (at_:Int) (ex:Bool) (h o:List UInt8),0<N->to_-at_<N->0<=at_->at_<=s.length->(o.length:Int)+h.length<=B+10000*at_->
  ∃ex' h' o',eP N to_ ex at_ w3 w4 w5 w6 w7 (ak h) w9 w10 w11 w12 w13 w14 s (aJ s) (FT s) w18 (ak o)=
   some (.inl ((ex',()),((w3,w4,w5,w6,()),(w7,()),(),(),()),(ak h',(w9,w10,w11,w12,w13,()),w14,(),(),(s,aJ s,()),FT s,(),(w18,()),ak o',(),())))/\
   o'++h'=o++h++mD s (aJ s) to_ N at_/\(o'.length:Int)+h'.length<=B+10000*s.length
 |0,at_,ex,h,o,hN,_,_,_,_=>by omega
 |N+1,at_,ex,h,o,hN,hlt,h0,h1,hh=>by
  rw[eP,qJ,mD]
  by_cases e:at_<to_
  ·have hup:= @Ht s at_
   have hsl:=DR s (aJ s) at_
   have keep: ∀(c:List UInt8) (nx:Int),c=(fB s (aJ s) at_).2.1->nx=(fB s (aJ s) at_).1->nx<=s.length->
     ∃ex' h' o',(bif aZ (ak (h++c)) 1 then eP N to_ ex nx w3 w4 w5 w6 w7 (ak (h++c)) w9 w10 w11 w12 w13 w14 s (aJ s) (FT s) w18 (ak o)else none)=
      some (.inl ((ex',()),((w3,w4,w5,w6,()),(w7,()),(),(),()),(ak h',(w9,w10,w11,w12,w13,()),w14,(),(),(s,aJ s,()),FT s,(),(w18,()),ak o',(),())))/\
      o'++h'=o++h++((fB s (aJ s) at_).2.1++mD s (aJ s) to_ N (fB s (aJ s) at_).1)/\(o'.length:Int)+h'.length<=B+10000*s.length:=by
    intro c nx hc hnx hle
    subst hc hnx
    rw[aK (zf (by rw[List.length_append];omega))]
    obtain⟨ex',h',o',r1,r2,r3⟩:=DF s hs hto B hB w3 w4 w5 w6 w7 w9 w10 w11 w12 w13 w14 w18 N (fB s (aJ s) at_).1 ex (h++(fB s (aJ s) at_).2.1) o (by omega) (by omega) (by omega) hle (by rw[List.length_append];omega)
    refine⟨ex',h',o',r1, ?_,r3⟩
    rw[r2]
    simp only[List.append_assoc]
   have push: ∀(l:List UInt8) (nx:Int),l=o++h++(fB s (aJ s) at_).2.1->nx=(fB s (aJ s) at_).1->nx<=s.length->
     ∃ex' h' o',(bif aZ (ak l) 1 then eP N to_ true nx w3 w4 w5 w6 w7 [] w9 w10 w11 w12 w13 w14 s (aJ s) (FT s) w18 (ak l)else none)=
      some (.inl ((ex',()),((w3,w4,w5,w6,()),(w7,()),(),(),()),(ak h',(w9,w10,w11,w12,w13,()),w14,(),(),(s,aJ s,()),FT s,(),(w18,()),ak o',(),())))/\
      o'++h'=o++h++((fB s (aJ s) at_).2.1++mD s (aJ s) to_ N (fB s (aJ s) at_).1)/\(o'.length:Int)+h'.length<=B+10000*s.length:=by
    intro l nx hl hnx hle
    subst hl hnx
    rw[aK (zf (by simp only[List.length_append];omega))]
    obtain⟨ex',h',o',r1,r2,r3⟩:=DF s hs hto B hB w3 w4 w5 w6 w7 w9 w10 w11 w12 w13 w14 w18 N (fB s (aJ s) at_).1 true [] (o++h++(fB s (aJ s) at_).2.1) (by omega) (by omega) (by omega) hle (by simp only[List.length_append,List.length_nil];omega)
    refine⟨ex',h',o',r1, ?_,r3⟩
    rw[r2]
    simp only[List.append_assoc,List.append_nil]
   have ha1:aG .i64 at_ 1=at_+1:=bI (by omega) (by omega)
   rw[aK (dM e),if_pos e]
   cases hf:qo (aJ s) at_ with
   |none=>
    have hst:fB s (aJ s) at_=(at_+1,sub s at_ (at_+1),false):=by unfold fB;rw[hf]
    rw[Uj hf,show aH 0 0=true from rfl,cond_true,aK (dw h0 (by omega)),OB h0 (by omega),nz,ha1]
    exact keep _ _ (by rw[hst]) (by rw[hst]) (by omega)
   |some p=>
    obtain⟨pf,hpe⟩:=pV hf
    have t0:=pf.t0
    have t1:=pf.t1
    obtain⟨m1,m2,m3⟩:=RV hs hf
    rw[m1,cond_false,m2,cond_true]
    simp only[m3]
    rw[agL pf.f0 (by omega),ae]
    by_cases hlone:lone p=true
    ·have hst:fB s (aJ s) at_=(at_+1,sub s at_ (at_+1),false):=by unfold fB;rw[hf];simp only;rw[if_pos hlone]
     rw[hlone,cond_true,aK (dw h0 (by omega)),OB h0 (by omega),nz,ha1]
     exact keep _ _ (by rw[hst]) (by rw[hst]) (by omega)
    ·rw[show lone p=false by simpa using hlone,cond_false]
     have hs2:ag .i64 p.2.2.1 p.2.1=p.2.2.1-p.2.1:=fU (by omega) (by omega)
     have ha2:aG .i64 p.2.1 1=p.2.1+1:=bI (by omega) (by omega)
     simp only[hs2,ha2,nz]
     by_cases h13:p.1=13
     ·have hes:=pf.es h13
      have hst:fB s (aJ s) at_=(p.2.2.1,J7 s p,false):=by unfold fB;rw[hf];simp only;rw[if_neg hlone,if_pos h13]
      rw[aK (dJ h13)]
      by_cases hto2:p.2.2.1=p.2.1+2
      ·rw[aU (iq (by omega)),aK (dw (by omega) (by omega))]
       have hesc:J7 s p=(if aI s (p.2.1+1)=36\/aI s (p.2.1+1)=96\/aI s (p.2.1+1)=34\/aI s (p.2.1+1)=92 then sub s (p.2.1+1) p.2.2.1
         else if aI s (p.2.1+1)=10 then []else jV s p):=by
        unfold J7
        rw[if_pos hto2]
       have hone:ofBytes [aI s (p.2.1+1)]=sub s (p.2.1+1) p.2.2.1:=by
        rw[OB (by omega) (by omega),zK,show p.2.1+1+1=p.2.2.1 by omega]
       simp only[hone]
       by_cases b1:aI s (p.2.1+1)=36
       ·simp only[dJ b1,cond_true]
        exact keep _ _ (by rw[hst,hesc,if_pos (.inl b1)]) (by rw[hst]) (by omega)
       ·rw[aU (bU b1)]
        by_cases b2:aI s (p.2.1+1)=96
        ·simp only[dJ b2,cond_true]
         exact keep _ _ (by rw[hst,hesc,if_pos (.inr (.inl b2))]) (by rw[hst]) (by omega)
        ·rw[aU (bU b2)]
         by_cases b3:aI s (p.2.1+1)=34
         ·simp only[dJ b3,cond_true]
          exact keep _ _ (by rw[hst,hesc,if_pos (.inr (.inr (.inl b3)))]) (by rw[hst]) (by omega)
         ·rw[aU (bU b3)]
          by_cases b4:aI s (p.2.1+1)=92
          ·simp only[dJ b4,cond_true]
           exact keep _ _ (by rw[hst,hesc,if_pos (.inr (.inr (.inr b4)))]) (by rw[hst]) (by omega)
          ·rw[aU (bU b4)]
           have hno: ¬(aI s (p.2.1+1)=36\/aI s (p.2.1+1)=96\/aI s (p.2.1+1)=34\/aI s (p.2.1+1)=92):=by omega
           by_cases b5:aI s (p.2.1+1)=10
           ·rw[aK (dJ b5)]
            exact keep _ _ (by rw[hst,hesc,if_neg hno,if_pos b5]) (by rw[hst]) (by omega)
           ·rw[aU (bU b5),aK (dC pf.f0 (by omega) (by rw[aB];omega))]
            exact keep _ _ (by rw[hst,hesc,if_neg hno,if_neg b5];rfl) (by rw[hst]) (by omega)
      ·rw[aK (dM (by omega))]
       exact keep _ _ (by rw[hst];unfold J7;rw[if_neg hto2]) (by rw[hst]) (by omega)
     ·have hst:fB s (aJ s) at_=(p.2.2.1,jV s p,true):=by unfold fB;rw[hf];simp only;rw[if_neg hlone,if_neg h13]
      rw[aU (bU h13)]
      have hpt:bu (ah s) p.2.1 p.2.2.1=true:=dC pf.f0 (by omega) (by rw[aB];omega)
      simp only[zK,nz,hpt,cond_true]
      rcases LW h with ⟨he,hl⟩|⟨he,hl⟩
      ·subst he
       rw[aU (iq (by omega))]
       exact push _ _ (by rw[hst,List.append_nil];rfl) (by rw[hst]) (by omega)
      ·rw[aK (dM hl),aK (zf (by rw[List.length_append];omega))]
       exact push _ _ (by rw[hst];rfl) (by rw[hst]) (by omega)
  ·rw[aU (gm e),if_neg e]
   exact⟨ex,h,o,rfl,by simp,by omega⟩
theorem Jk (s:List UInt8) (hs:s.length<=10000) (w1 w6:List UInt8): ∀(N:Nat) (at_:Int) (h o:List UInt8),(s.length:Int)-at_<N->0<=at_->at_<=s.length->(o.length:Int)+h.length<=200000000*at_->
  ∃h' o',fP N at_ w1 (ak h) s (aJ s) (FT s) w6 (ak o)=
   some (.inl ((),((w1,()),(),(),()),(ak h',(),(),(s,aJ s,()),FT s,(),(w6,()),ak o',(),())))/\
   o'++h'=o++h++jc s (aJ s) N at_/\(o'.length:Int)+h'.length<=200000000*s.length
 |0,at_,h,o,hN,_,_,_=>by omega
 |N+1,at_,h,o,hN,h0,h1,hh=>by
  rw[fP,ru,jc]
  by_cases e:at_<s.length
  ·have hup:= @Jq s at_
   have hle:=Ud (s:=s) e
   have hsl:(stepT s (aJ s) at_).2.length<=100010000:=by
    have h1:=Dp s (aJ s) at_
    have h2:s.length*s.length<=10000*10000:=Nat.mul_le_mul hs hs
    omega
   have go: ∀(g l:List UInt8) (nx:Int),l++g=o++h++(stepT s (aJ s) at_).2->nx=(stepT s (aJ s) at_).1->
     ∃h' o',fP N nx w1 (ak g) s (aJ s) (FT s) w6 (ak l)=
      some (.inl ((),((w1,()),(),(),()),(ak h',(),(),(s,aJ s,()),FT s,(),(w6,()),ak o',(),())))/\
      o'++h'=o++h++((stepT s (aJ s) at_).2++jc s (aJ s) N (stepT s (aJ s) at_).1)/\(o'.length:Int)+h'.length<=200000000*s.length:=by
    intro g l nx hl hnx
    subst hnx
    have hlen:=congrArg List.length hl
    simp only[List.length_append]at hlen
    obtain⟨h',o',r1,r2,r3⟩:=Jk s hs w1 w6 N (stepT s (aJ s) at_).1 g l (by omega) (by omega) hle (by omega)
    exact⟨h',o',r1,by rw[r2,hl];simp only[List.append_assoc],r3⟩
   have hb1: ∀x:List UInt8,x.length<=200000000->aZ (ak (h++x)) 1=true:=fun x hx=>zf (by rw[List.length_append];omega)
   have hb2: ∀x:List UInt8,x.length<=200000000->aZ (ak (o++x)) 1=true:=fun x hx=>zf (by rw[List.length_append];omega)
   have hb4:aZ (ak (o++h)) 1=true:=zf (by rw[List.length_append];omega)
   have hb3: ∀x:List UInt8,x.length<=200000000->aZ (ak (o++h++x)) 1=true:=fun x hx=>zf (by simp only[List.length_append];omega)
   have ha1:aG .i64 at_ 1=at_+1:=bI (by omega) (by omega)
   have hsub: ∀a b,(sub s a b).length<=200000000:=fun a b=>by have:=qh s a b;omega
   rw[aK (dM (b:=ah s) e),if_pos e]
   cases hf:qo (aJ s) at_ with
   |none=>
    have hst:stepT s (aJ s) at_=(at_+1,sub s at_ (at_+1)):=by unfold stepT;rw[hf]
    rw[Uj hf,show aH 0 0=true from rfl,cond_true]
    simp only[OB h0 e,nz,dw h0 e,jD,eG,cond_true,ha1,hb1 _ (hsub _ _)]
    exact go _ _ _ (by rw[hst,List.append_assoc]) (by rw[hst])
   |some p=>
    obtain⟨pf,hpe⟩:=pV hf
    have t0:=pf.t0
    have t1:=pf.t1
    obtain⟨m1,m2,m3⟩:=RV hs hf
    have hpt:bu (ah s) p.2.1 p.2.2.1=true:=dC pf.f0 (by omega) (by rw[aB];omega)
    have hpt1:bu (ah s) (p.2.1+1) p.2.2.1=true:=dC (by omega) (by omega) (by rw[aB];omega)
    have ha2:aG .i64 p.2.1 1=p.2.1+1:=bI (by omega) (by omega)
    rw[m1,cond_false,m2,cond_true]
    simp only[m3]
    rw[agL pf.f0 (by omega),ae]
    simp only[ha2,hpt,hpt1,zK,nz,cond_true,hb1 _ (hsub _ _),hb2 _ (hsub _ _),hb3 _ (hsub _ _),hb4]
    have flush: ∀(x:List UInt8),x.length<=200000000->x=(stepT s (aJ s) at_).2->p.2.2.1=(stepT s (aJ s) at_).1->
     ∃h' o',(bif cO h []then fP N p.2.2.1 w1 [] s (aJ s) (FT s) w6 (ak (o++x))
      else fP N p.2.2.1 w1 [] s (aJ s) (FT s) w6 (ak (o++h++x)))=
      some (.inl ((),((w1,()),(),(),()),(ak h',(),(),(s,aJ s,()),FT s,(),(w6,()),ak o',(),())))/\
      o'++h'=o++h++((stepT s (aJ s) at_).2++jc s (aJ s) N (stepT s (aJ s) at_).1)/\(o'.length:Int)+h'.length<=200000000*s.length:=by
     intro x hx hxe hnx
     by_cases he:h=[]
     ·subst he
      rw[aK (by rfl)]
      exact go [] _ _ (by rw[<-hxe];simp) hnx
     ·rw[aU (by simpa [cO] using he)]
      exact go [] _ _ (by rw[<-hxe];simp) hnx
    by_cases hpl':lone p=true\/p.1=14
    ·have hst:stepT s (aJ s) at_=(p.2.2.1,jV s p):=by unfold stepT;rw[hf];simp only;rw[if_pos hpl']
     have:=go (h++sub s p.2.1 p.2.2.1) o p.2.2.1 (by rw[hst,List.append_assoc];rfl) (by rw[hst])
     by_cases hlone:lone p=true
     ·simp only[hlone,cond_true];exact this
     ·have h14:p.1=14:=hpl'.resolve_left hlone
      simp only[show lone p=false by simpa using hlone,h14,show aH 14 14=true from rfl,cond_true,cond_false];exact this
    ·have hlone:lone p=false:=by
      cases h:lone p with
      |true=>exact absurd (.inl h) hpl'
      |false=>rfl
     have h14:p.1≠14:=fun h=>hpl' (.inr h)
     simp only[hlone,bU h14,cond_false]
     by_cases h13:p.1=13
     ·have hes:=pf.es h13
      have hst:stepT s (aJ s) at_=(p.2.2.1,J3 s p):=by unfold stepT;rw[hf];simp only;rw[if_neg hpl',if_pos h13]
      simp only[dJ h13,bU (show p.1≠4 by omega),cond_true,cond_false]
      by_cases hto2:p.2.2.1=p.2.1+2
      ·have hone:sub s (p.2.1+1) p.2.2.1=[s.getD (p.2.1+1).toNat 0]:=by
        obtain⟨n,hn⟩:=Int.eq_ofNat_of_zero_le (show 0<=p.2.1+1 by omega)
        have hn2:n<s.length:=by omega
        rw[hn,show p.2.2.1=((n+1:Nat):Int) by omega,tN,List.drop_eq_getElem_cons hn2,List.take_succ_cons,List.take_zero,Int.toNat_natCast,List.getD_eq_getElem?_getD,List.getElem?_eq_getElem hn2]
        rfl
       have hne:cO (sub s (p.2.1+1) p.2.2.1) []=false:=by rw[hone];simp[cO]
       rw[hne,Bool.not_false,cond_true]
       by_cases b5:aI s (p.2.1+1)=10
       ·have:cO (sub s (p.2.1+1) p.2.2.1) [10]=true:=by
         rw[hone]
         unfold aI at b5
         have h10:s.getD (p.2.1+1).toNat 0=10:=UInt8.toNat_inj.1 (by show _=10;omega)
         rw[h10];rfl
        rw[this,Bool.not_true,cond_false]
        exact go h o _ (by rw[hst];unfold J3;rw[if_neg (by omega),List.append_nil]) (by rw[hst])
       ·have:cO (sub s (p.2.1+1) p.2.2.1) [10]=false:=by
         rw[hone]
         have hq:s.getD (p.2.1+1).toNat 0≠10:=fun h=>b5 (by unfold aI;rw[h];rfl)
         simpa [cO] using hq
        rw[this,Bool.not_false,cond_true]
        exact flush _ (hsub _ _) (by rw[hst];unfold J3;rw[if_pos ⟨hto2,b5⟩]) (by rw[hst])
      ·have hnil:sub s (p.2.1+1) p.2.2.1=[]:=by
        unfold sub
        rw[List.drop_of_length_le]
        rw[List.length_take];omega
       rw[hnil,show(!cO ([]:List UInt8) [])=false from rfl,cond_false]
       exact go h o _ (by rw[hst];unfold J3;rw[if_neg (by omega),List.append_nil]) (by rw[hst])
     ·simp only[bU h13,cond_false]
      by_cases h4:p.1=4
      ·have hst:stepT s (aJ s) at_=(p.2.2.1,sub s (p.2.1+1) (qC p)):=by unfold stepT;rw[hf];simp only;rw[if_neg hpl',if_neg h13,if_pos h4]
       have hen:p.2.1+1<=qC p/\qC p<=p.2.2.1:=by
        unfold qC
        by_cases ho:p.2.2.2.2.1=true
        ·rw[if_pos ho];omega
        ·rw[if_neg ho]
         have:=pf.sh (by simpa using ho) (by omega)
         omega
       simp only[dJ h4,cond_true]
       rw[Uh hs pf (.inl h4),ae]
       simp only[dC (n:=ah s) (lo:=p.2.1+1) (hi:=qC p) (by omega) hen.1 (by rw[aB];omega),cond_true,hb2 _ (hsub _ _),hb3 _ (hsub _ _)]
       exact flush _ (hsub _ _) (by rw[hst]) (by rw[hst])
      ·simp only[bU h4,cond_false]
       by_cases h5:p.1=5
       ·have hst:stepT s (aJ s) at_=(p.2.2.1,mD s (aJ s) (qC p) s.length (p.2.1+1)):=by unfold stepT;rw[hf];simp only;rw[if_neg hpl',if_neg h13,if_neg h4,if_pos h5]
        have hen:p.2.1+1<=qC p/\qC p<=p.2.2.1:=by
         unfold qC
         by_cases ho:p.2.2.2.2.1=true
         ·rw[if_pos ho];omega
         ·rw[if_neg ho]
          have:=pf.sh (by simpa using ho) (by omega)
          omega
        simp only[dJ h5,cond_true,Uh hs pf (.inr h5),ae]
        have dbl: ∀(q:List UInt8),q=o++h-> ∃ex' h' o',eP aO (qC p) false (p.2.1+1) p.2.2.1 true true (p.1,(p.2.1,(p.2.2.1,(p.2.2.2.1,(p.2.2.2.2.1,()))))) w1 [] p.1 p.2.1 p.2.2.1 p.2.2.2.1 p.2.2.2.2.1 (ak h) s (aJ s) (FT s) w6 (ak q)=
          some (.inl ((ex',()),((p.2.2.1,true,true,(p.1,(p.2.1,(p.2.2.1,(p.2.2.2.1,(p.2.2.2.2.1,()))))),()),(w1,()),(),(),()),(ak h',(p.1,p.2.1,p.2.2.1,p.2.2.2.1,p.2.2.2.2.1,()),ak h,(),(),(s,aJ s,()),FT s,(),(w6,()),ak o',(),())))/\
          o'++h'=o++h++(stepT s (aJ s) at_).2:=by
         intro q hq
         obtain⟨ex',h',o',r1,r2,r3⟩:=DF s hs (to_:=qC p) (by omega) 10000000000000 (by omega) p.2.2.1 true true (p.1,(p.2.1,(p.2.2.1,(p.2.2.2.1,(p.2.2.2.2.1,()))))) w1 p.1 p.2.1 p.2.2.1 p.2.2.2.1 p.2.2.2.2.1 (ak h) w6 aO (p.2.1+1) false [] q (by unfold aO;omega) (by have:=dh (n:=s.length) (by omega);omega) (by omega) (by omega) (by rw[hq];simp only[List.length_append,List.length_nil];omega)
         refine⟨ex',h',o',r1, ?_⟩
         rw[r2,hq,hst,List.append_nil,DK s (qC p) aO s.length _ (by have:=dh (n:=s.length) (by omega);omega) (by omega)]
        have tail: ∀(ex':Bool) (h' o':List UInt8),o'++h'=o++h++(stepT s (aJ s) at_).2->
          ∃h'' o'',(bif aH (ah (ak h')) 0 then
            bif ex' then fP N p.2.2.1 w1 [] s (aJ s) (FT s) w6 (ak o')
            else bif aZ (ak (o'++h')) 1 then fP N p.2.2.1 w1 [] s (aJ s) (FT s) w6 (ak (o'++h'))else none
           else bif aZ (ak (o'++h')) 1 then fP N p.2.2.1 w1 [] s (aJ s) (FT s) w6 (ak (o'++h'))else none)=
           some (.inl ((),((w1,()),(),(),()),(ak h'',(),(),(s,aJ s,()),FT s,(),(w6,()),ak o'',(),())))/\
           o''++h''=o++h++((stepT s (aJ s) at_).2++jc s (aJ s) N (stepT s (aJ s) at_).1)/\(o''.length:Int)+h''.length<=200000000*s.length:=by
         intro ex' h' o' ho
         have hlen:=congrArg List.length ho
         simp only[List.length_append]at hlen
         have hfit:aZ (ak (o'++h')) 1=true:=zf (by rw[List.length_append];omega)
         have g1:=go [] (o'++h') p.2.2.1 (by rw[List.append_nil];exact ho) (by rw[hst])
         rw[hfit,cond_true]
         rcases LW h' with ⟨he,hl⟩|⟨he,hl⟩
         ·rw[aK (dJ hl)]
          rw[he,List.append_nil]at g1 ⊢
          cases ex'<;>exact g1
         ·rw[aU (bU (by omega))];exact g1
        by_cases he:h=[]
        ·rw[aK (by rw[he];rfl)]
         obtain⟨ex',h',o',r1,r2⟩:=dbl o (by rw[he,List.append_nil])
         rw[r1,ae]
         simp only[bF,cond_true,zK,nz]
         exact tail ex' h' o' r2
        ·rw[aU (by simpa [cO] using he)]
         obtain⟨ex',h',o',r1,r2⟩:=dbl (o++h) rfl
         rw[r1,ae]
         simp only[bF,cond_true,zK,nz]
         exact tail ex' h' o' r2
       ·have hst:stepT s (aJ s) at_=(p.2.2.1,jV s p):=by unfold stepT;rw[hf];simp only;rw[if_neg hpl',if_neg h13,if_neg h4,if_neg h5]
        simp only[bU h5,cond_false]
        exact flush _ (hsub _ _) (by rw[hst];rfl) (by rw[hst])
  ·rw[aU (gm (by rw[aB];omega)),if_neg e]
   exact⟨h,o,rfl,by simp,by omega⟩
theorem alr (s:List UInt8) (hs:s.length<=10000):ZL s=some (Bg s,()):=by
 have hl:=vC s
 rw[ZL,auT s (by omega),ae]
 simp only
 have h1:=KY (aJ s) (by omega) s [] s s (aJ s) [] aO 0 [] (dh (by omega)) (by omega)
 rw[show jZ aO (aJ s) (ah (aJ s)) 0 s [] s s (aJ s) [] []=_ from h1,ae]
 simp only[bF,List.drop_zero]
 obtain⟨h',o',r1,r2,r3⟩:=Jk s hs [] [] aO 0 [] [] (by have:=dh (n:=s.length) (by omega);omega) (by omega) (by omega) (by simp)
 rw[show fP aO 0 [] [] s (aJ s) (EC [] 0 (aJ s)) [] []=_ from r1,ae]
 have hm:jc s (aJ s) aO 0=Bg s:=Au s _ _ _ (by have:=dh (n:=s.length) (by omega);omega) (by omega)
 rw[hm,List.nil_append,List.nil_append]at r2
 simp only[bF,zK,nz,eG,cond_true]
 rw[aK (zf (by rw[List.length_append];omega)),r2]
 by_cases he:h'=[]
 ·rw[he,List.append_nil]at r2
  rw[aK (by rw[he];rfl),r2]
 ·rw[aU (by simpa [cO] using he)]
end Go.Proofs.YtihafdllichkeaaGreatDoor
namespace Go.Proofs.YtihafdllichkeaaGreatDoor
open Go.RowKit
set_option linter.unusedVariables false
set_option linter.unusedSimpArgs false
set_option maxRecDepth 100000
theorem Zn {l:List Dlm} (h:l.length<=1000000):mV l=some (l,()):=by
 unfold mV pJ
 have:aZ l 24=true:=mg (by omega)
 rw[this];rfl
theorem acQ {s:List UInt8} (hs:s.length<=10000) {a:Nat} (ha:a<s.length):MK s (a:Int)=some (((l9 s a:Nat):Int),()):=by
 rw[ap0 s (by omega) (by omega) (by omega),Int.toNat_natCast]
 unfold l9
 congr 2
theorem afe {s:List UInt8} {a:Nat} (ha:a<s.length):oG (s.drop a)≠0↔jJ (aI s a)=true\/oJ (s.drop a)=true:=by
 rw[byte_at ha,List.drop_eq_getElem_cons ha,Bd]
 cases h:jJ (s[a].toNat:Int)with
 |true=>simp
 |false=>
  cases h2:oJ (s[a]::s.drop (a+1))with
  |true=>simp
  |false=>simp
theorem aeX (t:List UInt8): ∀n,(FZ t n).2≠0->UY (t.take (FZ t n).2)=(FZ t n).1
 |0,h=>absurd rfl h
 |n+1,h=>by
  rw[FZ]at h ⊢
  split
  ·rfl
  ·rename_i h1
   rw[if_neg h1]at h
   exact aeX t n h
theorem ag5 {s:List UInt8} (hs:s.length<=10000) {a:Nat} (ha:a<s.length):RQ s (a:Int)=some (iD s a,()):=by
 have hin:dX s (a:Int)=true:=dw (by omega) (by omega)
 obtain⟨k,h1,h2,h3⟩:=anp (jm s a)
 have hz:=afe ha
 rw[RQ,auH (by omega) ha,ae,aK hin,h1,ae]
 simp only[h2,hin,cond_true,ahm (show a<=s.length by omega),ae,aiq (show s.length<1000000 by omega) (show a<=s.length by omega)]
 by_cases hb:oG (s.drop a)≠0
 ·have hpl:iD s a=(1,(a:Int),((a+oG (s.drop a):Nat):Int),false,()):=by unfold iD;rw[if_pos hb]
  rw[hpl]
  rcases hz.1 hb with h|h
  ·rw[h];rfl
  ·rw[h]
   cases jJ (aI s (a:Int))<;>rfl
 ·have h4:jJ (aI s (a:Int))=false:=by
   cases h:jJ (aI s (a:Int))with
   |false=>rfl
   |true=>exact absurd (hz.2 (.inl h)) hb
  have h5:oJ (s.drop a)=false:=by
   cases h:oJ (s.drop a)with
   |false=>rfl
   |true=>exact absurd (hz.2 (.inr h)) hb
  rw[h4,h5,cond_false,cond_false]
  unfold iD
  rw[if_neg hb]
  by_cases h10:aI s (a:Int)=10
  ·rw[aK (dJ h10),if_pos h10,bI (by omega) (by omega)];rfl
  ·rw[aU (bU h10),if_neg h10]
   by_cases h35:aI s (a:Int)=35
   ·rw[aK (dJ h35),if_pos h35,agb (by omega) (by omega),ae]
   ·rw[aU (bU h35),if_neg h35]
    have ho:=(Gy (s.drop a)).1
    rw[List.length_drop]at ho
    by_cases hop:(vV (s.drop a)).2≠0
    ·rw[aK (dM (by omega)),if_pos hop]
     rw[bI (by omega) (by omega)];rfl
    ·rw[aU (iq (by omega)),if_neg hop,aes (by omega) (by omega),ae]
     by_cases hn:uq (s.drop a)≠0
     ·rw[aK (dM (by omega)),if_pos hn,ae]
     ·rw[aU (iq (by omega)),if_neg hn,acQ hs ha,ae]
      have hw:=I9 (s:=s) (a:=a) (by omega)
      have hc:=G7 (s:=s) (a:=a) (b:=l9 s a)
      obtain⟨t,t1,t2⟩:=ady (NT s a (l9 s a)) (by omega)
      simp only
      rw[aK (dC (by omega) (by omega) (by rw[aB];omega)),O4,t1,ae]
      simp only
      rw[t2];rfl
theorem ahN {s:List UInt8} (hs:s.length<=10000) {a:Nat} (ha:a<s.length) {x:Um} (hl:x.2.1.length<=100000):
  Ti (sub s (iD s a).2.1 (iD s a).2.2.1) (iD s a).1 (x.1,(x.2.1,(x.2.2.1,())))=some (jf s a x,()):=by
 rw[Ti]
 simp only[Zn (show x.2.1.length<=1000000 by omega),ae]
 unfold iD jf
 by_cases hb:oG (s.drop a)≠0
 ·rw[if_pos hb,if_pos hb];rfl
 ·rw[if_neg hb,if_neg hb]
  by_cases h10:aI s (a:Int)=10
  ·have hlt:fD 0 (ah x.2.1)=decide (0<x.2.1.length):=by
    unfold fD ah
    rw[decide_eq_decide];omega
   rw[if_pos h10,if_pos h10,<-hlt];rfl
  ·rw[if_neg h10,if_neg h10]
   by_cases h35:aI s (a:Int)=35
   ·rw[if_pos h35,if_pos h35];rfl
   ·rw[if_neg h35,if_neg h35]
    by_cases hop:(vV (s.drop a)).2≠0
    ·rw[if_pos hop,if_pos hop]
     simp only
     rw[show aH 4 1=false from rfl,cond_false,show aH 4 2=false from rfl,cond_false,show aH 4 4=true from rfl,cond_true,tN,afW,ae]
     have:UY ((s.drop a).take (vV (s.drop a)).2)=(vV (s.drop a)).1:=aeX _ _ hop
     rw[this]
     simp only
     by_cases h4:(vV (s.drop a)).1=4
     ·rw[aK (dJ (by omega)),if_pos (.inl h4)]
     ·rw[aU (bU (by omega))]
      by_cases h5:(vV (s.drop a)).1=5
      ·rw[aK (dJ (by omega)),if_pos (.inr h5)]
      ·rw[aU (bU (by omega)),if_neg (by omega)]
    ·rw[if_neg hop,if_neg hop]
     by_cases hn:uq (s.drop a)≠0
     ·rw[if_pos hn,if_pos hn];rfl
     ·rw[if_neg hn,if_neg hn]
      have hc:=G7 (s:=s) (a:=a) (b:=l9 s a)
      simp only
      rw[show aH 6 1=false from rfl,cond_false,show aH 6 2=false from rfl,cond_false,show aH 6 4=false from rfl,cond_false,show aH 6 6=true from rfl,cond_true,O4]
      by_cases h0:x.1=0
      ·rw[dJ h0,if_pos h0];rfl
      ·have h5:aH x.1 5=decide (x.1=5):=rfl
       have hfit: ∀y,aZ (az x.2.1 [y]) 24=true:=fun y=>mg (by unfold az;simp only[List.length_append,List.length_singleton];omega)
       rw[bU h0,Bool.not_false,cond_true,if_neg h0,alr _ (by omega),ae]
       simp only[jD,eG,eX,hfit,cond_true,Bool.and_true]
       rfl
theorem alb {s:List UInt8} (hs:s.length<=10000) {a:Nat} (ha:a<s.length) (x:Um) (hp:x.2.2.1=true->x.2.1≠[]) (hl:x.2.1.length<=100000):
  YX s (a:Int) x=some ((jl s a x).1,((jl s a x).2,())):=by
 obtain⟨aw,pd,bd,u⟩:=x
 cases u
 simp only at hp hl
 rw[YX,aU (iq (by omega)),aU (Fh (by rw[aB];omega))]
 unfold jl
 cases bd with
 |true=>
  obtain⟨d,r,rfl⟩: ∃d r,pd=d::r:=by
   cases pd with
   |nil=>exact absurd rfl (hp rfl)
   |cons d r=>exact⟨d,r,rfl⟩
  simp only[cond_true,if_true]
  rw[aK (dM (by rw[aB];simp only[List.length_cons];omega)),ahr]
  simp only
  rw[aK (dw (by omega) (by simp only[List.length_cons];omega)),show af (d::r) ([],(false,())) 0=d from rfl,alL (by omega) d (by omega),ae]
  simp only[List.headD_cons]
  by_cases hh:(wo s d.1 d.2.1 a).2=true
  rotate_left
  ·rw[Bool.not_eq_true]at hh
   simp only[hh,Bool.false_eq_true,if_false,Bool.not_false,cond_true,eG,eY,eX,Bool.and_true,ae]
  ·have hsb:sub (d::r) 1 (ah (d::r))=r:=by simp[sub,aB]
   have hlt:fD 0 (ah r)=decide (1<(d::r).length):=by
    unfold fD ah
    rw[decide_eq_decide,List.length_cons];omega
   have hpt:bu (ah (d::r)) 1 (ah (d::r))=true:=dC (by omega) (by rw[aB];simp only[List.length_cons];omega) (by omega)
   rw[List.length_cons]at hl
   simp only[hh,if_true,Bool.not_true,cond_false,hpt,hsb,cond_true,Zn (show r.length<=1000000 by omega),ae,eG,eX,Bool.and_true,hlt]
   rfl
 |false=>
  simp only[cond_false,Bool.false_eq_true,if_false]
  have ht:=xI hs ha (aw,(pd,(false,())))
  have hs1:jl s a (aw,(pd,(false,())))=(iD s a,jf s a (aw,(pd,(false,())))):=by unfold jl;rw[if_neg (by simp)]
  rw[hs1]at ht
  simp only at ht
  rw[ag5 hs ha,ae]
  simp only
  have hpt:bu (ah s) (iD s a).2.1 (iD s a).2.2.1=true:=dC (by omega) (by omega) (by rw[aB];omega)
  rw[hpt,cond_true,ahN hs ha (x:=(aw,(pd,(false,())))) hl,ae]
  simp only[jD,eG,eX,eY,cond_true,Bool.and_true]
theorem LC {s:List UInt8} (hs:s.length<=10000) (v13:Int) (v14:Bool): ∀(N a:Nat) (l:List Tok) (x:Um) (t:Tok),s.length-a<N->a<=s.length->OkX x->x.2.1.length<=a->l.length<=a->
  lm N (a:Int) t.1 t.2.1 t.2.2.1 t.2.2.2.1 x.1 x.2.1 x.2.2.1 s l x.1 x.2.1 x.2.2.1 v13 v14=
   some (.inl ((),((),(),(),()),((s,()),(),(mP s N a l x).1,((mP s N a l x).2.1,(mP s N a l x).2.2.1,(mP s N a l x).2.2.2.1,()),(),(v13,v14,()),())))
 |0,a,l,x,t,h,_,_,_,_=>by omega
 |N+1,a,l,x,t,h,ha,hx,hp,hl=>by
  rw[lm,vX,mP]
  by_cases e:a<s.length
  ·have hto:=xI hs e x
   have hok:=Ij s a hx
   have hx':(x.1,(x.2.1,(x.2.2.1,())))=x:=rfl
   rw[aK (dM (by rw[aB];omega)),hx',alb hs e x hx (by omega),ae,if_pos e]
   have hfit: ∀y,aZ (az l [y]) 32=true:=fun y=>mg (by unfold az;simp only[List.length_append,List.length_singleton];omega)
   simp only[hfit,eG,eX,eY,cond_true,Bool.and_true]
   obtain⟨b,hb⟩: ∃b:Nat,(jl s a x).1.2.2.1=(b:Int):=⟨(jl s a x).1.2.2.1.toNat,by omega⟩
   have ih:=LC hs v13 v14 N b (l++[(jl s a x).1]) (jl s a x).2 (jl s a x).1 (by omega) (by omega) hok.1 (by omega) (by simp only[List.length_append,List.length_singleton];omega)
   rw[hb]at ih ⊢
   rw[Int.toNat_natCast,<-ih]
   rw[<-hb]
   rfl
  ·rw[aU (gm (by rw[aB];omega)),if_neg e]
theorem apn {s:List UInt8} (hs:s.length<=10000):aiZ s=some ((gW s).1,((gW s).2,())):=by
 have h:=LC hs 0 false aO 0 [] (0,[],false,()) (0,0,0,false,()) (dh (by omega)) (by omega) (fun h=>by cases h) (by simp) (by simp)
 have hm:mP s aO 0 [] (0,[],false,())=gW s:=DL hs _ _ _ _ _ (by have:=dh (n:=s.length) (by omega);omega) (by omega)
 rw[aiZ,show lm aO 0 0 0 0 false 0 [] false s [] 0 [] false 0 false=_ from h,ae,hm]
 rfl
end Go.Proofs.YtihafdllichkeaaGreatDoor
namespace Go.Proofs.YtihafdllichkeaaGreatDoor
open Go.RowKit
set_option linter.unusedVariables false
set_option linter.unusedSimpArgs false
set_option maxRecDepth 100000
theorem AB {s:List UInt8} (hs:s.length<=10000) (l:List Tok) (hl:l.length<=10000) (hok: ∀t∈l,OkT s t): ∀(N k:Nat),l.length-k<N->k<=l.length->
  uQ N s l (ah l) (k:Int) (gJ s (l.take k))=some (.inl ((),(gJ s l,())))
 |0,k,h,_=>by omega
 |N+1,k,h,hk=>by
  rw[uQ,Pj]
  by_cases e:k<l.length
  ·have hg:af l (0,(0,(0,(false,())))) (k:Int)=l[k]:=by
    unfold af
    rw[Int.toNat_natCast,List.getD_eq_getElem?_getD,List.getElem?_eq_getElem e];rfl
   have hin:dX l (k:Int)=true:=dw (by omega) (by omega)
   obtain⟨o1,o2,o3⟩:=hok _ (List.getElem_mem e)
   have hpt:bu (ah s) l[k].2.1 l[k].2.2.1=true:=dC o1 (by omega) (by rw[aB];omega)
   have hlen:(gJ s (l.take k)).length<=10000:=by
    unfold gJ
    rw[List.length_map]
    have:=List.length_filter_le QW (l.take k)
    rw[List.length_take]at this;omega
   have hfit: ∀y,aZ (az (gJ s (l.take k)) [y]) 40=true:=fun y=>mg (by unfold az;simp only[List.length_append,List.length_singleton];omega)
   have ih:=AB hs l hl hok N (k+1) (by omega) (by omega)
   have hts:l.take (k+1)=l.take k++[l[k]]:=by rw[List.take_add_one,List.getElem?_eq_getElem e];rfl
   have hadd:aG .i64 (k:Int) 1=((k+1:Nat):Int):=by rw[bI (by omega) (by omega)];omega
   have t1:fD l[k].2.1 0=false:=iq (by omega)
   have t2:fD l[k].2.2.1 l[k].2.1=false:=iq (by omega)
   have t3:fD (ah s) l[k].2.2.1=false:=iq (by rw[aB];omega)
   have htx:Jz s (l[k].1,(l[k].2.1,(l[k].2.2.1,(l[k].2.2.2.1,()))))=some (sub s l[k].2.1 l[k].2.2.1,()):=by
    rw[Jz]
    simp only[t1,t2,t3,hpt,cond_true,cond_false]
   have yes:QW l[k]=true->uQ N s l (ah l) ((k+1:Nat):Int) (az (gJ s (l.take k)) [(l[k].1,(sub s l[k].2.1 l[k].2.2.1,(l[k].2.1,(l[k].2.2.1,()))))])=some (.inl ((),(gJ s l,()))):=fun hy=>by
    rw[<-ih]
    congr 1
    unfold gJ
    rw[hts,List.filter_append,List.map_append,List.filter_cons_of_pos hy]
    rfl
   have no:QW l[k]=false->uQ N s l (ah l) ((k+1:Nat):Int) (gJ s (l.take k))=some (.inl ((),(gJ s l,()))):=fun hy=>by
    rw[<-ih]
    congr 1
    unfold gJ
    rw[hts,List.filter_append,List.filter_cons_of_neg (by rw[hy];simp)]
    simp
   rw[aK (dM (by rw[aB];omega)),hin,cond_true]
   simp only[hg,t1,t2,t3,cond_false,hadd,htx,ae,eG,jD,eX,Bool.and_true,cond_true,hfit]
   unfold QW at yes no
   by_cases h4:l[k].1=4
   ·simp only[dJ h4,cond_true];exact yes (by simp[h4])
   ·by_cases h5:l[k].1=5
    ·simp only[bU h4,dJ h5,cond_true,cond_false];exact yes (by simp[h5])
    ·by_cases h6:l[k].1=6
     ·simp only[bU h4,bU h5,dJ h6,cond_true,cond_false];exact yes (by simp[h6])
     ·by_cases h2:l[k].1=2
      ·simp only[bU h4,bU h5,bU h6,dJ h2,cond_true,cond_false];exact yes (by simp[h2])
      ·simp only[bU h4,bU h5,bU h6,bU h2,cond_true,cond_false];exact no (by simp[h2,h4,h5,h6])
  ·rw[aU (gm (by rw[aB];omega)),List.take_of_length_le (by omega)]
theorem apz {s:List UInt8} (hs:s.length<=10000):anA s (gW s).1=some (gJ s (gW s).1,()):=by
 obtain⟨h1,h2,h3⟩:=uS hs
 have h:=AB hs (gW s).1 (by omega) h1 aO 0 (dh (by omega)) (by omega)
 rw[anA,show uQ aO s (gW s).1 (ah (gW s).1) 0 []=_ from h,ae]
 rfl
end Go.Proofs.YtihafdllichkeaaGreatDoor
namespace Go.Proofs.YtihafdllichkeaaGreatDoor
open Go.RowKit
set_option linter.unusedVariables false
set_option linter.unusedSimpArgs false
set_option maxRecDepth 100000
def iG (l:List Tok):Tok:=l.getLastD (0,(0,(0,(false,()))))
theorem apm:iG []=(0,(0,(0,(false,())))):=rfl
theorem xZ (r:List Tok) (t:Tok):iG (r++[t])=t:=by simp[iG]
theorem BJ (r:List Tok) (t:Tok) (h:r.length<1000000):fD 0 (ah (r++[t]))=true/\dX (r++[t]) (ag .i64 (ah (r++[t])) 1)=true/\af (r++[t]) (0,(0,(0,(false,())))) (ag .i64 (ah (r++[t])) 1)=t:=by
 have hL:ag .i64 (ah (r++[t])) 1=(r.length:Int):=by
  rw[aB,fU (by simp only[List.length_append,List.length_singleton];omega) (by simp only[List.length_append,List.length_singleton];omega)]
  simp
 rw[hL]
 exact⟨dM (by rw[aB];simp only[List.length_append,List.length_singleton];omega),dw (by omega) (by simp only[List.length_append,List.length_singleton];omega),sQ rfl⟩
theorem Du {u:List UInt8} (hu:u.length<=10000):(iG (gW u).1).1≠0->0<=(iG (gW u).1).2.1/\(iG (gW u).1).2.1<=u.length/\u≠[]:=by
 intro h
 rcases List.eq_nil_or_concat (gW u).1 with e|⟨r,t,e⟩
 ·rw[e]at h;exact absurd rfl h
 ·rw[List.concat_eq_append]at e
  have ho:=(uS hu).1 t (by rw[e];simp)
  rw[e,xZ]
  have h1:=ho.f0
  have h2:=ho.ft
  have h3:=ho.t1
  refine⟨h1,by omega, ?_⟩
  rintro rfl
  simp only[List.length_nil]at h3
  omega
end Go.Proofs.YtihafdllichkeaaGreatDoor
namespace Go.Proofs.YtihafdllichkeaaGreatDoor
open Go.RowKit
set_option maxRecDepth 100000
set_option linter.unusedVariables false
set_option linter.unusedSimpArgs false
noncomputable def iQ (sg:FuncId->Option Sum):Env:={P:=Tryz.prog,T:=tt,cl:=true,kp:=fun _ _=>none,sg:=sg,lp:=fun _ _=>none,bf:=CJ}
theorem kG {sg:FuncId->Option Sum} (h: ∀g s,sg g=some s->bD Tryz.prog g s):bJ (iQ sg):=⟨tok,mixed,bV,h,fun f fn c _ _=>aS (fun _=>rfl) (fun _=>rfl) c,bW _ fun f fn c _ _=>aS (fun _=>rfl) (fun _=>rfl) c,bC,fun _ _ h=>by cases h⟩
theorem vZ {sg:FuncId->Option Sum} (h: ∀g s,sg g=some s->bD Tryz.prog g s) {f:FuncId} {s0:Sum} (h0:bD Tryz.prog f s0): ∀g s,(bif Nat.beq g f then some s0 else sg g)=some s->bD Tryz.prog g s:=fun g s e=>by
 rw[cond_eq_ite]at e
 split at e
 ·rename_i hg
  obtain rfl:g=f:=Nat.eq_of_beq_eq_true hg
  cases e
  exact h0
 ·exact h g s e
theorem aju:ik (iQ sg1) 122 [(.int .u8)] [((.int .i64),false)] ((108,()):(Int×Unit))=some ((5,()):(Int×Unit)):=by kernel_rfl
theorem ait:ik (iQ sg1) 122 [(.int .u8)] [((.int .i64),false)] ((115,()):(Int×Unit))=some ((5,()):(Int×Unit)):=by kernel_rfl
theorem aij:ik (iQ sg1) 122 [(.int .u8)] [((.int .i64),false)] ((32,()):(Int×Unit))=some ((1,()):(Int×Unit)):=by kernel_rfl
theorem aj8:ik (iQ sg1) 122 [(.int .u8)] [((.int .i64),false)] ((34,()):(Int×Unit))=some ((4,()):(Int×Unit)):=by kernel_rfl
theorem ajd:ik (iQ sg1) 122 [(.int .u8)] [((.int .i64),false)] ((97,()):(Int×Unit))=some ((5,()):(Int×Unit)):=by kernel_rfl
theorem ajM:ik (iQ sg1) 122 [(.int .u8)] [((.int .i64),false)] ((98,()):(Int×Unit))=some ((5,()):(Int×Unit)):=by kernel_rfl
def Pq (x:(Int×Unit)):Option (Int×Unit):=bif decide (x=(108,()))then some (5,())else bif decide (x=(115,()))then some (5,())else bif decide (x=(32,()))then some (1,())else bif decide (x=(34,()))then some (4,())else bif decide (x=(97,()))then some (5,())else bif decide (x=(98,()))then some (5,())else none
theorem XY (x:(Int×Unit)) (y:(Int×Unit)) (h:Pq x=some y):ik (iQ sg1) 122 [(.int .u8)] [((.int .i64),false)] x=some y:=by
 unfold Pq at h
 rw[cond_eq_ite]at h
 split at h
 ·rename_i he
  have e:=of_decide_eq_true he
  subst e
  cases h
  exact aju
 rw[cond_eq_ite]at h
 split at h
 ·rename_i he
  have e:=of_decide_eq_true he
  subst e
  cases h
  exact ait
 rw[cond_eq_ite]at h
 split at h
 ·rename_i he
  have e:=of_decide_eq_true he
  subst e
  cases h
  exact aij
 rw[cond_eq_ite]at h
 split at h
 ·rename_i he
  have e:=of_decide_eq_true he
  subst e
  cases h
  exact aj8
 rw[cond_eq_ite]at h
 split at h
 ·rename_i he
  have e:=of_decide_eq_true he
  subst e
  cases h
  exact ajd
 rw[cond_eq_ite]at h
 split at h
 ·rename_i he
  have e:=of_decide_eq_true he
  subst e
  cases h
  exact ajM
 cases h
theorem Xe:bD Tryz.prog 122 ⟨[(.int .u8)],[((.int .i64),false)],Pq⟩:=gp (kG Wu) (by decide) fun x y h=>XY x y h
noncomputable def uK (g:FuncId):Option Sum:=bif Nat.beq g 122 then some ⟨[(.int .u8)],[((.int .i64),false)],Pq⟩else sg1 g
theorem Kw: ∀g s,uK g=some s->bD Tryz.prog g s:=vZ Wu Xe
theorem ajU:ik (iQ uK) 285 [(.int .u8)] [(.bool,false)] ((108,()):(Int×Unit))=some ((false,()):(Bool×Unit)):=by kernel_rfl
theorem aiM:ik (iQ uK) 285 [(.int .u8)] [(.bool,false)] ((115,()):(Int×Unit))=some ((false,()):(Bool×Unit)):=by kernel_rfl
theorem air:ik (iQ uK) 285 [(.int .u8)] [(.bool,false)] ((32,()):(Int×Unit))=some ((true,()):(Bool×Unit)):=by kernel_rfl
theorem ain:ik (iQ uK) 285 [(.int .u8)] [(.bool,false)] ((34,()):(Int×Unit))=some ((false,()):(Bool×Unit)):=by kernel_rfl
theorem ajb:ik (iQ uK) 285 [(.int .u8)] [(.bool,false)] ((97,()):(Int×Unit))=some ((false,()):(Bool×Unit)):=by kernel_rfl
theorem aim:ik (iQ uK) 285 [(.int .u8)] [(.bool,false)] ((98,()):(Int×Unit))=some ((false,()):(Bool×Unit)):=by kernel_rfl
def Q9 (x:(Int×Unit)):Option (Bool×Unit):=bif decide (x=(108,()))then some (false,())else bif decide (x=(115,()))then some (false,())else bif decide (x=(32,()))then some (true,())else bif decide (x=(34,()))then some (false,())else bif decide (x=(97,()))then some (false,())else bif decide (x=(98,()))then some (false,())else none
theorem XX (x:(Int×Unit)) (y:(Bool×Unit)) (h:Q9 x=some y):ik (iQ uK) 285 [(.int .u8)] [(.bool,false)] x=some y:=by
 unfold Q9 at h
 rw[cond_eq_ite]at h
 split at h
 ·rename_i he
  have e:=of_decide_eq_true he
  subst e
  cases h
  exact ajU
 rw[cond_eq_ite]at h
 split at h
 ·rename_i he
  have e:=of_decide_eq_true he
  subst e
  cases h
  exact aiM
 rw[cond_eq_ite]at h
 split at h
 ·rename_i he
  have e:=of_decide_eq_true he
  subst e
  cases h
  exact air
 rw[cond_eq_ite]at h
 split at h
 ·rename_i he
  have e:=of_decide_eq_true he
  subst e
  cases h
  exact ain
 rw[cond_eq_ite]at h
 split at h
 ·rename_i he
  have e:=of_decide_eq_true he
  subst e
  cases h
  exact ajb
 rw[cond_eq_ite]at h
 split at h
 ·rename_i he
  have e:=of_decide_eq_true he
  subst e
  cases h
  exact aim
 cases h
theorem Ws:bD Tryz.prog 285 ⟨[(.int .u8)],[(.bool,false)],Q9⟩:=gp (kG Kw) (by decide) fun x y h=>XX x y h
noncomputable def JB (g:FuncId):Option Sum:=bif Nat.beq g 285 then some ⟨[(.int .u8)],[(.bool,false)],Q9⟩else uK g
theorem LP: ∀g s,JB g=some s->bD Tryz.prog g s:=vZ Kw Ws
theorem ai6:ik (iQ JB) 321 [.str] [((.int .u8),false)] (([108,115],()):((List UInt8)×Unit))=some ((120,()):(Int×Unit)):=by kernel_rfl
theorem ajR:ik (iQ JB) 321 [.str] [((.int .u8),false)] (([95],()):((List UInt8)×Unit))=some ((120,()):(Int×Unit)):=by kernel_rfl
def Rh (x:((List UInt8)×Unit)):Option (Int×Unit):=bif decide (x=([108,115],()))then some (120,())else bif decide (x=([95],()))then some (120,())else none
theorem XT (x:((List UInt8)×Unit)) (y:(Int×Unit)) (h:Rh x=some y):ik (iQ JB) 321 [.str] [((.int .u8),false)] x=some y:=by
 unfold Rh at h
 rw[cond_eq_ite]at h
 split at h
 ·rename_i he
  have e:=of_decide_eq_true he
  subst e
  cases h
  exact ai6
 rw[cond_eq_ite]at h
 split at h
 ·rename_i he
  have e:=of_decide_eq_true he
  subst e
  cases h
  exact ajR
 cases h
theorem XH:bD Tryz.prog 321 ⟨[.str],[((.int .u8),false)],Rh⟩:=gp (kG LP) (by decide) fun x y h=>XT x y h
noncomputable def IZ (g:FuncId):Option Sum:=bif Nat.beq g 321 then some ⟨[.str],[((.int .u8),false)],Rh⟩else JB g
theorem LX: ∀g s,IZ g=some s->bD Tryz.prog g s:=vZ LP XH
theorem aiC:ik (iQ IZ) 293 [(.pair (.int .i64) (.pair .str (.pair (.int .i64) (.pair (.int .i64) .unit))))] [((.int .u8),false)] (((6,([108,115],(0,(2,())))),()):((Int×((List UInt8)×(Int×(Int×Unit))))×Unit))=some ((120,()):(Int×Unit)):=by kernel_rfl
theorem aip:ik (iQ IZ) 293 [(.pair (.int .i64) (.pair .str (.pair (.int .i64) (.pair (.int .i64) .unit))))] [((.int .u8),false)] (((6,([95],(0,(0,())))),()):((Int×((List UInt8)×(Int×(Int×Unit))))×Unit))=some ((120,()):(Int×Unit)):=by kernel_rfl
def Qz (x:((Int×((List UInt8)×(Int×(Int×Unit))))×Unit)):Option (Int×Unit):=bif decide (x=((6,([108,115],(0,(2,())))),()))then some (120,())else bif decide (x=((6,([95],(0,(0,())))),()))then some (120,())else none
theorem XC (x:((Int×((List UInt8)×(Int×(Int×Unit))))×Unit)) (y:(Int×Unit)) (h:Qz x=some y):ik (iQ IZ) 293 [(.pair (.int .i64) (.pair .str (.pair (.int .i64) (.pair (.int .i64) .unit))))] [((.int .u8),false)] x=some y:=by
 unfold Qz at h
 rw[cond_eq_ite]at h
 split at h
 ·rename_i he
  have e:=of_decide_eq_true he
  subst e
  cases h
  exact aiC
 rw[cond_eq_ite]at h
 split at h
 ·rename_i he
  have e:=of_decide_eq_true he
  subst e
  cases h
  exact aip
 cases h
theorem Vo:bD Tryz.prog 293 ⟨[(.pair (.int .i64) (.pair .str (.pair (.int .i64) (.pair (.int .i64) .unit))))],[((.int .u8),false)],Qz⟩:=gp (kG LX) (by decide) fun x y h=>XC x y h
noncomputable def Hw (g:FuncId):Option Sum:=bif Nat.beq g 293 then some ⟨[(.pair (.int .i64) (.pair .str (.pair (.int .i64) (.pair (.int .i64) .unit))))],[((.int .u8),false)],Qz⟩else IZ g
theorem LG: ∀g s,Hw g=some s->bD Tryz.prog g s:=vZ LX Vo
theorem alU:ik (iQ Hw) 48 [.str] [((.list (.pair (.int .i64) (.pair (.int .i64) .unit))),false),(.bool,false)] (([108,115],()):((List UInt8)×Unit))=some (([(0,(0,()))],(false,())):((List (Int×(Int×Unit)))×Bool×Unit)):=by kernel_rfl
theorem anK:ik (iQ Hw) 48 [.str] [((.list (.pair (.int .i64) (.pair (.int .i64) .unit))),false),(.bool,false)] (([34,97,32,98],()):((List UInt8)×Unit))=some (([(0,(0,())),(5,(0,()))],(false,())):((List (Int×(Int×Unit)))×Bool×Unit)):=by kernel_rfl
def Zo (x:((List UInt8)×Unit)):Option ((List (Int×(Int×Unit)))×Bool×Unit):=bif decide (x=([108,115],()))then some ([(0,(0,()))],(false,()))else bif decide (x=([34,97,32,98],()))then some ([(0,(0,())),(5,(0,()))],(false,()))else none
theorem aa0 (x:((List UInt8)×Unit)) (y:((List (Int×(Int×Unit)))×Bool×Unit)) (h:Zo x=some y):ik (iQ Hw) 48 [.str] [((.list (.pair (.int .i64) (.pair (.int .i64) .unit))),false),(.bool,false)] x=some y:=by
 unfold Zo at h
 rw[cond_eq_ite]at h
 split at h
 ·rename_i he
  have e:=of_decide_eq_true he
  subst e
  cases h
  exact alU
 rw[cond_eq_ite]at h
 split at h
 ·rename_i he
  have e:=of_decide_eq_true he
  subst e
  cases h
  exact anK
 cases h
theorem ab8:bD Tryz.prog 48 ⟨[.str],[((.list (.pair (.int .i64) (.pair (.int .i64) .unit))),false),(.bool,false)],Zo⟩:=gp (kG LG) (by decide) fun x y h=>aa0 x y h
noncomputable def Ru (g:FuncId):Option Sum:=bif Nat.beq g 48 then some ⟨[.str],[((.list (.pair (.int .i64) (.pair (.int .i64) .unit))),false),(.bool,false)],Zo⟩else Hw g
theorem Uk: ∀g s,Ru g=some s->bD Tryz.prog g s:=vZ LG ab8
theorem aiI:ik (iQ Ru) 268 [.str,(.int .i64)] [((.int .i64),false)] (([108,115,32,34,97,32,98],(0,())):((List UInt8)×Int×Unit))=some ((2,()):(Int×Unit)):=by kernel_rfl
theorem ajD:ik (iQ Ru) 268 [.str,(.int .i64)] [((.int .i64),false)] (([108,115,32,34,97,32,98],(3,())):((List UInt8)×Int×Unit))=some ((7,()):(Int×Unit)):=by kernel_rfl
def Nv (x:((List UInt8)×Int×Unit)):Option (Int×Unit):=bif decide (x=([108,115,32,34,97,32,98],(0,())))then some (2,())else bif decide (x=([108,115,32,34,97,32,98],(3,())))then some (7,())else none
theorem Vu (x:((List UInt8)×Int×Unit)) (y:(Int×Unit)) (h:Nv x=some y):ik (iQ Ru) 268 [.str,(.int .i64)] [((.int .i64),false)] x=some y:=by
 unfold Nv at h
 rw[cond_eq_ite]at h
 split at h
 ·rename_i he
  have e:=of_decide_eq_true he
  subst e
  cases h
  exact aiI
 rw[cond_eq_ite]at h
 split at h
 ·rename_i he
  have e:=of_decide_eq_true he
  subst e
  cases h
  exact ajD
 cases h
theorem X3:bD Tryz.prog 268 ⟨[.str,(.int .i64)],[((.int .i64),false)],Nv⟩:=gp (kG Uk) (by decide) fun x y h=>Vu x y h
noncomputable def GL (g:FuncId):Option Sum:=bif Nat.beq g 268 then some ⟨[.str,(.int .i64)],[((.int .i64),false)],Nv⟩else Ru g
theorem Lu: ∀g s,GL g=some s->bD Tryz.prog g s:=vZ Uk X3
theorem ai8:ik (iQ GL) 269 [.str] [(.str,false)] (([108,115],()):((List UInt8)×Unit))=some (([],()):((List UInt8)×Unit)):=by kernel_rfl
theorem aiW:ik (iQ GL) 269 [.str] [(.str,false)] (([34,97,32,98],()):((List UInt8)×Unit))=some (([34],()):((List UInt8)×Unit)):=by kernel_rfl
def Og (x:((List UInt8)×Unit)):Option ((List UInt8)×Unit):=bif decide (x=([108,115],()))then some ([],())else bif decide (x=([34,97,32,98],()))then some ([34],())else none
theorem Vg (x:((List UInt8)×Unit)) (y:((List UInt8)×Unit)) (h:Og x=some y):ik (iQ GL) 269 [.str] [(.str,false)] x=some y:=by
 unfold Og at h
 rw[cond_eq_ite]at h
 split at h
 ·rename_i he
  have e:=of_decide_eq_true he
  subst e
  cases h
  exact ai8
 rw[cond_eq_ite]at h
 split at h
 ·rename_i he
  have e:=of_decide_eq_true he
  subst e
  cases h
  exact aiW
 cases h
theorem VE:bD Tryz.prog 269 ⟨[.str],[(.str,false)],Og⟩:=gp (kG Lu) (by decide) fun x y h=>Vg x y h
noncomputable def Dq (g:FuncId):Option Sum:=bif Nat.beq g 269 then some ⟨[.str],[(.str,false)],Og⟩else GL g
theorem KP: ∀g s,Dq g=some s->bD Tryz.prog g s:=vZ Lu VE
theorem ajl:ik (iQ Dq) 211 [.str,(.int .i64)] [((.pair (.int .i64) (.pair (.int .i64) (.pair (.int .i64) (.pair .bool .unit)))),false)] (([108,115,32,34,97,32,98],(0,())):((List UInt8)×Int×Unit))=some (((6,(0,(2,(false,())))),()):((Int×(Int×(Int×(Bool×Unit))))×Unit)):=by kernel_rfl
theorem aiX:ik (iQ Dq) 211 [.str,(.int .i64)] [((.pair (.int .i64) (.pair (.int .i64) (.pair (.int .i64) (.pair .bool .unit)))),false)] (([108,115,32,34,97,32,98],(2,())):((List UInt8)×Int×Unit))=some (((1,(2,(3,(false,())))),()):((Int×(Int×(Int×(Bool×Unit))))×Unit)):=by kernel_rfl
theorem ajk:ik (iQ Dq) 211 [.str,(.int .i64)] [((.pair (.int .i64) (.pair (.int .i64) (.pair (.int .i64) (.pair .bool .unit)))),false)] (([108,115,32,34,97,32,98],(3,())):((List UInt8)×Int×Unit))=some (((6,(3,(7,(true,())))),()):((Int×(Int×(Int×(Bool×Unit))))×Unit)):=by kernel_rfl
def Ov (x:((List UInt8)×Int×Unit)):Option ((Int×(Int×(Int×(Bool×Unit))))×Unit):=bif decide (x=([108,115,32,34,97,32,98],(0,())))then some ((6,(0,(2,(false,())))),())else bif decide (x=([108,115,32,34,97,32,98],(2,())))then some ((1,(2,(3,(false,())))),())else bif decide (x=([108,115,32,34,97,32,98],(3,())))then some ((6,(3,(7,(true,())))),())else none
theorem XZ (x:((List UInt8)×Int×Unit)) (y:((Int×(Int×(Int×(Bool×Unit))))×Unit)) (h:Ov x=some y):ik (iQ Dq) 211 [.str,(.int .i64)] [((.pair (.int .i64) (.pair (.int .i64) (.pair (.int .i64) (.pair .bool .unit)))),false)] x=some y:=by
 unfold Ov at h
 rw[cond_eq_ite]at h
 split at h
 ·rename_i he
  have e:=of_decide_eq_true he
  subst e
  cases h
  exact ajl
 rw[cond_eq_ite]at h
 split at h
 ·rename_i he
  have e:=of_decide_eq_true he
  subst e
  cases h
  exact aiX
 rw[cond_eq_ite]at h
 split at h
 ·rename_i he
  have e:=of_decide_eq_true he
  subst e
  cases h
  exact ajk
 cases h
theorem Ya:bD Tryz.prog 211 ⟨[.str,(.int .i64)],[((.pair (.int .i64) (.pair (.int .i64) (.pair (.int .i64) (.pair .bool .unit)))),false)],Ov⟩:=gp (kG KP) (by decide) fun x y h=>XZ x y h
noncomputable def IC (g:FuncId):Option Sum:=bif Nat.beq g 211 then some ⟨[.str,(.int .i64)],[((.pair (.int .i64) (.pair (.int .i64) (.pair (.int .i64) (.pair .bool .unit)))),false)],Ov⟩else Dq g
theorem LQ: ∀g s,IC g=some s->bD Tryz.prog g s:=vZ KP Ya
theorem ajp:ik (iQ IC) 158 [.str] [((.list (.pair (.int .i64) (.pair (.int .i64) (.pair (.int .i64) (.pair (.int .i64) (.pair .bool .unit)))))),false)] (([34,97,32,98],()):((List UInt8)×Unit))=some (([(5,(0,(4,((-1),(true,())))))],()):((List (Int×(Int×(Int×(Int×(Bool×Unit))))))×Unit)):=by kernel_rfl
theorem ajf:ik (iQ IC) 158 [.str] [((.list (.pair (.int .i64) (.pair (.int .i64) (.pair (.int .i64) (.pair (.int .i64) (.pair .bool .unit)))))),false)] (([108,115],()):((List UInt8)×Unit))=some (([],()):((List (Int×(Int×(Int×(Int×(Bool×Unit))))))×Unit)):=by kernel_rfl
def Qi (x:((List UInt8)×Unit)):Option ((List (Int×(Int×(Int×(Int×(Bool×Unit))))))×Unit):=bif decide (x=([34,97,32,98],()))then some ([(5,(0,(4,((-1),(true,())))))],())else bif decide (x=([108,115],()))then some ([],())else none
theorem VG (x:((List UInt8)×Unit)) (y:((List (Int×(Int×(Int×(Int×(Bool×Unit))))))×Unit)) (h:Qi x=some y):ik (iQ IC) 158 [.str] [((.list (.pair (.int .i64) (.pair (.int .i64) (.pair (.int .i64) (.pair (.int .i64) (.pair .bool .unit)))))),false)] x=some y:=by
 unfold Qi at h
 rw[cond_eq_ite]at h
 split at h
 ·rename_i he
  have e:=of_decide_eq_true he
  subst e
  cases h
  exact ajp
 rw[cond_eq_ite]at h
 split at h
 ·rename_i he
  have e:=of_decide_eq_true he
  subst e
  cases h
  exact ajf
 cases h
theorem U1:bD Tryz.prog 158 ⟨[.str],[((.list (.pair (.int .i64) (.pair (.int .i64) (.pair (.int .i64) (.pair (.int .i64) (.pair .bool .unit)))))),false)],Qi⟩:=gp (kG LQ) (by decide) fun x y h=>VG x y h
noncomputable def Il (g:FuncId):Option Sum:=bif Nat.beq g 158 then some ⟨[.str],[((.list (.pair (.int .i64) (.pair (.int .i64) (.pair (.int .i64) (.pair (.int .i64) (.pair .bool .unit)))))),false)],Qi⟩else IC g
theorem LD: ∀g s,Il g=some s->bD Tryz.prog g s:=vZ LQ U1
theorem ajE:ik (iQ Il) 100 [.str] [(.str,false),(.bool,false)] (([34,97,32,98],()):((List UInt8)×Unit))=some (([97,32,98],(true,())):((List UInt8)×Bool×Unit)):=by kernel_rfl
theorem ajJ:ik (iQ Il) 100 [.str] [(.str,false),(.bool,false)] (([108,115],()):((List UInt8)×Unit))=some (([108,115],(true,())):((List UInt8)×Bool×Unit)):=by kernel_rfl
def NC (x:((List UInt8)×Unit)):Option ((List UInt8)×Bool×Unit):=bif decide (x=([34,97,32,98],()))then some ([97,32,98],(true,()))else bif decide (x=([108,115],()))then some ([108,115],(true,()))else none
theorem Xj (x:((List UInt8)×Unit)) (y:((List UInt8)×Bool×Unit)) (h:NC x=some y):ik (iQ Il) 100 [.str] [(.str,false),(.bool,false)] x=some y:=by
 unfold NC at h
 rw[cond_eq_ite]at h
 split at h
 ·rename_i he
  have e:=of_decide_eq_true he
  subst e
  cases h
  exact ajE
 rw[cond_eq_ite]at h
 split at h
 ·rename_i he
  have e:=of_decide_eq_true he
  subst e
  cases h
  exact ajJ
 cases h
theorem Wv:bD Tryz.prog 100 ⟨[.str],[(.str,false),(.bool,false)],NC⟩:=gp (kG LD) (by decide) fun x y h=>Xj x y h
noncomputable def GZ (g:FuncId):Option Sum:=bif Nat.beq g 100 then some ⟨[.str],[(.str,false),(.bool,false)],NC⟩else Il g
theorem LV: ∀g s,GZ g=some s->bD Tryz.prog g s:=vZ LD Wv
theorem akf:ik (iQ GZ) 225 [.str] [(.str,false),(.str,false),(.bool,false)] (([34,97,32,98],()):((List UInt8)×Unit))=some (([],([],(false,()))):((List UInt8)×(List UInt8)×Bool×Unit)):=by kernel_rfl
theorem ajx:ik (iQ GZ) 225 [.str] [(.str,false),(.str,false),(.bool,false)] (([108,115],()):((List UInt8)×Unit))=some (([],([],(false,()))):((List UInt8)×(List UInt8)×Bool×Unit)):=by kernel_rfl
def Pi (x:((List UInt8)×Unit)):Option ((List UInt8)×(List UInt8)×Bool×Unit):=bif decide (x=([34,97,32,98],()))then some ([],([],(false,())))else bif decide (x=([108,115],()))then some ([],([],(false,())))else none
theorem Xu (x:((List UInt8)×Unit)) (y:((List UInt8)×(List UInt8)×Bool×Unit)) (h:Pi x=some y):ik (iQ GZ) 225 [.str] [(.str,false),(.str,false),(.bool,false)] x=some y:=by
 unfold Pi at h
 rw[cond_eq_ite]at h
 split at h
 ·rename_i he
  have e:=of_decide_eq_true he
  subst e
  cases h
  exact akf
 rw[cond_eq_ite]at h
 split at h
 ·rename_i he
  have e:=of_decide_eq_true he
  subst e
  cases h
  exact ajx
 cases h
theorem WI:bD Tryz.prog 225 ⟨[.str],[(.str,false),(.str,false),(.bool,false)],Pi⟩:=gp (kG LV) (by decide) fun x y h=>Xu x y h
noncomputable def Nk (g:FuncId):Option Sum:=bif Nat.beq g 225 then some ⟨[.str],[(.str,false),(.str,false),(.bool,false)],Pi⟩else GZ g
theorem La: ∀g s,Nk g=some s->bD Tryz.prog g s:=vZ LV WI
theorem aiL:ik (iQ Nk) 163 [(.list (.pair (.int .i64) (.pair (.int .i64) (.pair (.int .i64) (.pair (.int .i64) .unit))))),(.int .i64),(.int .i64)] [((.int .i64),false),((.int .i64),false)] (([(1,(0,(2,((-1),())))),(2,(0,(2,(0,())))),(3,(0,(2,(1,())))),(4,(0,(2,(2,())))),(5,(0,(2,(3,())))),(7,(0,(1,(4,())))),(7,(1,(2,(4,()))))],(4,(6,()))):((List (Int×(Int×(Int×(Int×Unit)))))×Int×Int×Unit))=some ((1,(5,())):(Int×Int×Unit)):=by kernel_rfl
def Oo (x:((List (Int×(Int×(Int×(Int×Unit)))))×Int×Int×Unit)):Option (Int×Int×Unit):=bif decide (x=([(1,(0,(2,((-1),())))),(2,(0,(2,(0,())))),(3,(0,(2,(1,())))),(4,(0,(2,(2,())))),(5,(0,(2,(3,())))),(7,(0,(1,(4,())))),(7,(1,(2,(4,()))))],(4,(6,()))))then some (1,(5,()))else none
theorem Wj (x:((List (Int×(Int×(Int×(Int×Unit)))))×Int×Int×Unit)) (y:(Int×Int×Unit)) (h:Oo x=some y):ik (iQ Nk) 163 [(.list (.pair (.int .i64) (.pair (.int .i64) (.pair (.int .i64) (.pair (.int .i64) .unit))))),(.int .i64),(.int .i64)] [((.int .i64),false),((.int .i64),false)] x=some y:=by
 unfold Oo at h
 rw[cond_eq_ite]at h
 split at h
 ·rename_i he
  have e:=of_decide_eq_true he
  subst e
  cases h
  exact aiL
 cases h
theorem WW:bD Tryz.prog 163 ⟨[(.list (.pair (.int .i64) (.pair (.int .i64) (.pair (.int .i64) (.pair (.int .i64) .unit))))),(.int .i64),(.int .i64)],[((.int .i64),false),((.int .i64),false)],Oo⟩:=gp (kG La) (by decide) fun x y h=>Wj x y h
noncomputable def afh (g:FuncId):Option Sum:=bif Nat.beq g 163 then some ⟨[(.list (.pair (.int .i64) (.pair (.int .i64) (.pair (.int .i64) (.pair (.int .i64) .unit))))),(.int .i64),(.int .i64)],[((.int .i64),false),((.int .i64),false)],Oo⟩else Nk g
theorem aa9: ∀g s,afh g=some s->bD Tryz.prog g s:=vZ La WW
theorem abw:ik (iQ afh) 15 [] [(.bool,false)] ()=some (true,()):=by kernel_rfl
def Ah:Sum:=⟨[],[(.bool,false)],fun _=>some (true,())⟩
theorem Ko:bD Tryz.prog 15 Ah:=gp (kG aa9) (by decide) fun x y h=>by
 cases h
 exact abw
end Go.Proofs.YtihafdllichkeaaGreatDoor
namespace Go.Proofs.YtihafdllichkeaaGreatDoor
open Go.RowKit
set_option linter.unusedVariables false
set_option linter.unusedSimpArgs false
set_option maxRecDepth 100000
set_option maxHeartbeats 4000000
def afS (x0:List UInt8) (x1:Int) (x2:Int) (x3:List (Int×Int×Int×Bool×Unit)) (x4:Int) (x5:Int) (x6:Int) (x7:Bool) (x8:Bool):Option (((List UInt8)×Int×Int×(List (Int×Int×Int×Bool×Unit))×Int×Int×Int×Bool×Bool×Unit)×(Bool×Unit)):=
 bif x8 then
  some ((x0,(x1,(x2,(x3,(x4,(x5,(x6,(x7,(x8,()))))))))),(true,()))
 else
 bif(aH x4 7)then
  bif x7 then
   some ((x0,(x1,(x2,(x3,(x4,(x5,(x6,(x7,(x8,()))))))))),(true,()))
  else
  bif(dX x0 (ag .i64 (ah x0) 1))then
   some ((x0,(x1,(x2,(x3,(x4,(x5,(x6,(x7,(x8,()))))))))),((!(aH (aI x0 (ag .i64 (ah x0) 1)) 10)),()))
  else
  none
 else
 some ((x0,(x1,(x2,(x3,(x4,(x5,(x6,(x7,(x8,()))))))))),(false,()))
def akZ:gB:=(⟨72,[(.str,false),(.int .i64,false),(.int .i64,false),(.list (.pair (.int .i64) (.pair (.int .i64) (.pair (.int .i64) (.pair .bool .unit)))),false),(.int .i64,false),(.int .i64,false),(.int .i64,false),(.bool,false),(.bool,false)],[],[.bool],fun x y=>afS x.1 x.2.1 x.2.2.1 x.2.2.2.1 x.2.2.2.2.1 x.2.2.2.2.2.1 x.2.2.2.2.2.2.1 x.2.2.2.2.2.2.2.1 x.2.2.2.2.2.2.2.2.1⟩:gB)
noncomputable def ak5:Env:=fV Tryz.prog tt [] [] [] []
theorem arq (x0:List UInt8) (x1:Int) (x2:Int) (x3:List (Int×Int×Int×Bool×Unit)) (x4:Int) (x5:Int) (x6:Int) (x7:Bool) (x8:Bool):uM ak5 47 72 [(.str,false),(.int .i64,false),(.int .i64,false),(.list (.pair (.int .i64) (.pair (.int .i64) (.pair (.int .i64) (.pair .bool .unit)))),false),(.int .i64,false),(.int .i64,false),(.int .i64,false),(.bool,false),(.bool,false)] [] [.bool] (x0,x1,x2,x3,x4,x5,x6,x7,x8,()) ()=afS x0 x1 x2 x3 x4 x5 x6 x7 x8:=by kernel_rfl
theorem adS:bJ ak5:=dQ tok mixed bV (sg:=[]) aN [] (by kernel_rfl) (by kernel_rfl) aN bW bC
theorem afV:ig Tryz.prog 47 akZ:=dY adS fun x y z h=>(arq (x.1) (x.2.1) (x.2.2.1) (x.2.2.2.1) (x.2.2.2.2.1) (x.2.2.2.2.2.1) (x.2.2.2.2.2.2.1) (x.2.2.2.2.2.2.2.1) (x.2.2.2.2.2.2.2.2.1)).trans h
def adW (x0:List UInt8) (x1:Int) (x2:Int) (x3:List (Int×Int×Int×Bool×Unit)) (x4:Int) (x5:Int) (x6:Int) (x7:Bool) (x8:Bool):Option (((List UInt8)×Int×Int×(List (Int×Int×Int×Bool×Unit))×Int×Int×Int×Bool×Bool×Unit)×(Int×Unit)):=
 bif(aH x4 6)then
  some ((x0,(x1,(x2,(x3,(x4,(x5,(x6,(x7,(x8,()))))))))),(x5,()))
 else
 some ((x0,(x1,(x2,(x3,(x4,(x5,(x6,(x7,(x8,()))))))))),((ah x0),()))
def akA:gB:=(⟨72,[(.str,false),(.int .i64,false),(.int .i64,false),(.list (.pair (.int .i64) (.pair (.int .i64) (.pair (.int .i64) (.pair .bool .unit)))),false),(.int .i64,false),(.int .i64,false),(.int .i64,false),(.bool,false),(.bool,false)],[],[.int .i64],fun x y=>adW x.1 x.2.1 x.2.2.1 x.2.2.2.1 x.2.2.2.2.1 x.2.2.2.2.2.1 x.2.2.2.2.2.2.1 x.2.2.2.2.2.2.2.1 x.2.2.2.2.2.2.2.2.1⟩:gB)
noncomputable def akL:Env:=fV Tryz.prog tt [] [] [] []
theorem apI (x0:List UInt8) (x1:Int) (x2:Int) (x3:List (Int×Int×Int×Bool×Unit)) (x4:Int) (x5:Int) (x6:Int) (x7:Bool) (x8:Bool):uM akL 49 72 [(.str,false),(.int .i64,false),(.int .i64,false),(.list (.pair (.int .i64) (.pair (.int .i64) (.pair (.int .i64) (.pair .bool .unit)))),false),(.int .i64,false),(.int .i64,false),(.int .i64,false),(.bool,false),(.bool,false)] [] [.int .i64] (x0,x1,x2,x3,x4,x5,x6,x7,x8,()) ()=adW x0 x1 x2 x3 x4 x5 x6 x7 x8:=by kernel_rfl
theorem afu:bJ akL:=dQ tok mixed bV (sg:=[]) aN [] (by kernel_rfl) (by kernel_rfl) aN bW bC
theorem agd:ig Tryz.prog 49 akA:=dY afu fun x y z h=>(apI (x.1) (x.2.1) (x.2.2.1) (x.2.2.2.1) (x.2.2.2.2.1) (x.2.2.2.2.2.1) (x.2.2.2.2.2.2.1) (x.2.2.2.2.2.2.2.1) (x.2.2.2.2.2.2.2.2.1)).trans h
noncomputable def b50:Code:=(Tryz.f50.body).getD .skip
noncomputable def akk:Code:=cA (cA (cB (cA (cB (cB (b50))))))
def ak3:dB:=⟨[3,9,10,11,100003],[],[3],[],[2],[]⟩
def YR:SP:=⟨us [.u,.u,.u,.slc 1000008,.u,.u,.u,.u,.u,.v (.list (.pair (.int .i64) (.pair (.int .i64) .unit))),.v (.int .i64),.v (.int .i64)] 23,[.arr 1000008 (.int .u8)]⟩
def XM:SP:=⟨us [.u,.u,.u,.slc 1000008] 31,[.arr 1000008 (.int .u8)]⟩
def WB:SP:=⟨us [.u,.u,.v .str] 32,[]⟩
def OA {γ:Type} (rec:(List (Int×Int×Unit))->Int->Int->(List (Int))->Option γ) (kE:(List (Int))->Option γ) (kR:(List UInt8)->Option γ) (v0:List (Int×Int×Unit)) (v1:Int) (v2:Int) (v3:List (Int)):Option γ:=
 bif(fD v2 v1)then
  bif(dX v0 v2)then
   bif(fD (af v0 (0,(0,())) v2).1 0)then
    bif(aZ (az v3 [63]) 1)then
     rec v0 v1 (aG .i64 v2 1) (az v3 [63])
    else
    none
   else
   bif(leI 15 (af v0 (0,(0,())) v2).1)then
    bif(aZ (az v3 [63]) 1)then
     rec v0 v1 (aG .i64 v2 1) (az v3 [63])
    else
    none
   else
   bif(dX [84,67,80,79,83,68,66,86,73,65,82,69,76,88,35] (af v0 (0,(0,())) v2).1)then
    bif(aZ (az v3 [(aI [84,67,80,79,83,68,66,86,73,65,82,69,76,88,35] (af v0 (0,(0,())) v2).1)]) 1)then
     rec v0 v1 (aG .i64 v2 1) (az v3 [(aI [84,67,80,79,83,68,66,86,73,65,82,69,76,88,35] (af v0 (0,(0,())) v2).1)])
    else
    none
   else
   none
  else
  none
 else
 kE v3
def zQ:Nat->(List (Int×Int×Unit))->Int->Int->(List (Int))->Option (XM.den⊕WB.den)
 |0,_,_,_,_=>none
 |n+1,v0,v1,v2,v3=>OA (zQ n) (fun e0=>some (.inl ((),(e0,())))) (fun r0=>some (.inr ((r0,()),()))) v0 v1 v2 v3
noncomputable def aeT:bG:=dO ak3 YR XM WB (.exit 0) (fun v=>zQ aO v.1.1 v.1.2.1 v.1.2.2.1 v.2.1) 6
def ah8 (x0:List (Int×Int×Unit)):Option ((List UInt8)×Unit):=
 bif((leI 0 0)&&((leI 0 (ah x0))&&(adQ (ah x0) 1)))then
  ai (zQ aO x0 (ah x0) 0 (ari (au 0) 0)) fun y0=>
   bF y0 (fun a1=>
    some ((ofBytes a1.2.1),())) (fun b1=>
    some (b1.1.1,()))
 else
 none
def afk:Sum:=(⟨[.list (.pair (.int .i64) (.pair (.int .i64) .unit))],[(.str,false)],fun x=>ah8 x.1⟩:Sum)
noncomputable def agc:Env:=dI Tryz.prog tt 50 [] [(3,ak3)] [(3,aeT)]
def afc {γ:Type} (a:YR.den->Option γ) (b:XM.den->Option γ) (c:WB.den->Option γ) (v:YR.den):Option γ:=OA (fun v0 v1 v2 v3=>a ((v0,v1,v2,()),(v3,()))) (fun e0=>b ((),(e0,()))) (fun r0=>c ((r0,()),())) v.1.1 v.1.2.1 v.1.2.2.1 v.2.1
theorem am2:di agc 50 akk aeT:=wG (afc) (lp:=fun n (v:YR.den)=>zQ n v.1.1 v.1.2.1 v.1.2.2.1 v.2.1) (by kernel_rfl) (fun _=>rfl) (fun _ _=>rfl) (fun d n K v=>by kernel_rfl) (by intros;simp only[afc,OA,bn,bg,ae,aV,bi])
theorem ap7:bZ b50=[akk]:=by kernel_rfl
theorem arz:cZ agc 50 b50:=bP b50 (fun _=>rfl) (by rw[ap7];exact(aC ⟨fL (by kernel_rfl) (am2),aN⟩))
theorem af7:bJ agc:=bz tok mixed bV (sg:=[]) aN (fn:=Tryz.f50) (c:=b50) (by kernel_rfl) (by kernel_rfl) (arz) bW bC
theorem aeq:bD Tryz.prog 50 afk:=ed af7 (by decide) fun x=>by kernel_rfl
def Tv (x0:List UInt8) (x1:Int) (x2:Int) (x3:List (Int×Int×Int×Bool×Unit)) (x4:Int) (x5:Int) (x6:Int) (x7:Bool) (x8:Bool):Option (((List UInt8)×Int×Int×(List (Int×Int×Int×Bool×Unit))×Int×Int×Int×Bool×Bool×Unit)×(Unit)):=
 bif(fD 0 (ah x3))then
  bif(dX x3 (ag .i64 (ah x3) 1))then
   some ((x0,(x1,(x2,(x3,((af x3 (0,(0,(0,(false,())))) (ag .i64 (ah x3) 1)).1,((af x3 (0,(0,(0,(false,())))) (ag .i64 (ah x3) 1)).2.1,((af x3 (0,(0,(0,(false,())))) (ag .i64 (ah x3) 1)).2.2.1,((af x3 (0,(0,(0,(false,())))) (ag .i64 (ah x3) 1)).2.2.2.1,(x8,()))))))))),())
  else
  none
 else
 some ((x0,(x1,(x2,(x3,(x4,(x5,(x6,(x7,(x8,()))))))))),())
def af9:gB:=(⟨72,[(.str,false),(.int .i64,false),(.int .i64,false),(.list (.pair (.int .i64) (.pair (.int .i64) (.pair (.int .i64) (.pair .bool .unit)))),false),(.int .i64,false),(.int .i64,false),(.int .i64,false),(.bool,false),(.bool,false)],[],[],fun x y=>Tv x.1 x.2.1 x.2.2.1 x.2.2.2.1 x.2.2.2.2.1 x.2.2.2.2.2.1 x.2.2.2.2.2.2.1 x.2.2.2.2.2.2.2.1 x.2.2.2.2.2.2.2.2.1⟩:gB)
noncomputable def agC:Env:=fV Tryz.prog tt [] [] [] []
theorem alv (x0:List UInt8) (x1:Int) (x2:Int) (x3:List (Int×Int×Int×Bool×Unit)) (x4:Int) (x5:Int) (x6:Int) (x7:Bool) (x8:Bool):uM agC 102 72 [(.str,false),(.int .i64,false),(.int .i64,false),(.list (.pair (.int .i64) (.pair (.int .i64) (.pair (.int .i64) (.pair .bool .unit)))),false),(.int .i64,false),(.int .i64,false),(.int .i64,false),(.bool,false),(.bool,false)] [] [] (x0,x1,x2,x3,x4,x5,x6,x7,x8,()) ()=Tv x0 x1 x2 x3 x4 x5 x6 x7 x8:=by kernel_rfl
theorem adA:bJ agC:=dQ tok mixed bV (sg:=[]) aN [] (by kernel_rfl) (by kernel_rfl) aN bW bC
theorem aaT:ig Tryz.prog 102 af9:=dY adA fun x y z h=>(alv (x.1) (x.2.1) (x.2.2.1) (x.2.2.2.1) (x.2.2.2.2.1) (x.2.2.2.2.2.1) (x.2.2.2.2.2.2.1) (x.2.2.2.2.2.2.2.1) (x.2.2.2.2.2.2.2.2.1)).trans h
def al4:dB:=⟨[0,1],[],[],[],[],[]⟩
def acV (x0:List UInt8) (x1:Int):Option ((List UInt8)×Int×Unit):=
 bif(fD x1 0)then
  some ([],(1,()))
 else
 bif(fD (ah x0) x1)then
  some ([],(1,()))
 else
 bif(bu (ah x0) 0 x1)then
  ai (aiZ (sub x0 0 x1)) fun y0=>
   ai (Tv (sub x0 0 x1) 0 0 y0.1 0 0 0 false y0.2.1.2.2.1) fun y1=>
    ai (afS y1.1.1 y1.1.2.1 y1.1.2.2.1 y1.1.2.2.2.1 y1.1.2.2.2.2.1 y1.1.2.2.2.2.2.1 y1.1.2.2.2.2.2.2.1 y1.1.2.2.2.2.2.2.2.1 y1.1.2.2.2.2.2.2.2.2.1) fun y2=>
     bif y2.2.1 then
      some ([72],(0,()))
     else
     bif(aH y2.1.2.2.2.2.1 3)then
      some ([84,35],(0,()))
     else
     ai (adW y2.1.1 y2.1.2.1 y2.1.2.2.1 y2.1.2.2.2.1 y2.1.2.2.2.2.1 y2.1.2.2.2.2.2.1 y2.1.2.2.2.2.2.2.1 y2.1.2.2.2.2.2.2.2.1 y2.1.2.2.2.2.2.2.2.2.1) fun y3=>
      bif(cO y3.1.1 y2.1.1)then
       bif(bu (ah y2.1.1) y3.2.1 (ah y2.1.1))then
        ai (aeo (sub y2.1.1 y3.2.1 (ah y2.1.1))) fun y4=>
         bif(cO y3.1.1 y2.1.1)then
          ai (ah8 y4.1) fun y5=>
           some (y5.1,(0,()))
         else
         none
       else
       none
      else
      none
 else
 none
def ahT:Sum:=(⟨[.str,.int .i64],[(.str,false),(.int .i64,false)],fun x=>acV x.1 x.2.1⟩:Sum)
noncomputable def ap1:Env:=fV Tryz.prog tt [(48,RU),(50,afk),(59,aeR)] [(18,600003,al4)] [] [] [(47,akZ),(49,akA),(102,af9)]
theorem adP:bJ ap1:=dQ tok mixed bV (sg:=[(48,RU),(50,afk),(59,aeR)]) (aC ⟨(UH),(aC ⟨(aeq),(aC ⟨(aey),aN⟩)⟩)⟩) [] (by kernel_rfl) (by kernel_rfl) aN bW bC (hx:=(aC ⟨afV,(aC ⟨agd,(aC ⟨aaT,aN⟩)⟩)⟩))
theorem afE:bD Tryz.prog 18 ahT:=ed adP (by decide) fun x=>by kernel_rfl
noncomputable def aeQ:Code:=(Tryz.f107.body).getD .skip
noncomputable def afA:Code:=cA (cA (cA (cB (cB (cB (cB (aeQ)))))))
def ae6:dB:=⟨[0,8,9,100006],[(8,(.pair (.int .i64) (.pair (.int .i64) (.pair (.int .i64) (.pair .bool .unit)))))],[8],[],[4,5],[(4,(.pair (.int .i64) (.pair (.int .i64) (.pair (.int .i64) (.pair .bool .unit)))))]⟩
def OE:SP:=⟨us [.v .str,.u,.u,.u,.u,.u,.u,.u,.slc 1800008,.v (.int .i64)] 30,[.arr 1800008 (.pair (.int .i64) (.pair (.int .i64) (.pair (.int .i64) (.pair .bool .unit))))]⟩
def Qu:SP:=⟨us [.u,.u,.u,.u,.u,.u,.u,.u,.slc 1800008] 31,[.arr 1800008 (.pair (.int .i64) (.pair (.int .i64) (.pair (.int .i64) (.pair .bool .unit))))]⟩
def Q5:SP:=⟨us [.u,.u,.u,.u,.v (.list (.pair (.int .i64) (.pair (.int .i64) (.pair (.int .i64) (.pair .bool .unit))))),.v .bool] 34,[]⟩
def Nj {γ:Type} (rec:(List UInt8)->Int->(List (Int×Int×Int×Bool×Unit))->Option γ) (kE:(List (Int×Int×Int×Bool×Unit))->Option γ) (kR:(List (Int×Int×Int×Bool×Unit))->Bool->Option γ) (v0:List UInt8) (v1:Int) (v2:List (Int×Int×Int×Bool×Unit)):Option γ:=
 bif(fD v1 (ah v0))then
  ai (aei v0 v1 (0,([],(false,())))) fun y0=>
   bif(aZ (az v2 [(y0.1.1,(y0.1.2.1,(y0.1.2.2.1,(y0.1.2.2.2.1,()))))]) 32)then
    rec v0 y0.1.2.2.1 (az v2 [(y0.1.1,(y0.1.2.1,(y0.1.2.2.1,(y0.1.2.2.2.1,()))))])
   else
   none
 else
 kE v2
def F8:Nat->(List UInt8)->Int->(List (Int×Int×Int×Bool×Unit))->Option (Qu.den⊕Q5.den)
 |0,_,_,_=>none
 |n+1,v0,v1,v2=>Nj (F8 n) (fun e0=>some (.inl ((),(e0,())))) (fun r0 r1=>some (.inr ((r0,r1,()),()))) v0 v1 v2
noncomputable def Yz:bG:=dO ae6 OE Qu Q5 (.exit 0) (fun v=>F8 aO v.1.1 v.1.2.1 v.2.1) 6
def KH (x0:List UInt8) (x1:Bool):Option ((List (Int×Int×Int×Bool×Unit))×Bool×Unit):=
 bif(!x1)then
  ai (aeb x0) fun y0=>
   some (y0.1,(y0.2.1.2.2.1,()))
 else
 ai (F8 aO x0 0 []) fun y0=>
  bF y0 (fun a1=>
   some (a1.2.1,(false,()))) (fun b1=>
   some (b1.1.1,(b1.1.2.1,())))
def zM:Sum:=(⟨[.str,.bool],[(.list (.pair (.int .i64) (.pair (.int .i64) (.pair (.int .i64) (.pair .bool .unit)))),false),(.bool,false)],fun x=>KH x.1 x.2.1⟩:Sum)
noncomputable def VY:Env:=dI Tryz.prog tt 107 [(74,Sr),(90,Su)] [(6,ae6)] [(6,Yz)]
def YI {γ:Type} (a:OE.den->Option γ) (b:Qu.den->Option γ) (c:Q5.den->Option γ) (v:OE.den):Option γ:=Nj (fun v0 v1 v2=>a ((v0,v1,()),(v2,()))) (fun e0=>b ((),(e0,()))) (fun r0 r1=>c ((r0,r1,()),())) v.1.1 v.1.2.1 v.2.1
theorem akc:di VY 107 afA Yz:=wG (YI) (lp:=fun n (v:OE.den)=>F8 n v.1.1 v.1.2.1 v.2.1) (by kernel_rfl) (fun _=>rfl) (fun _ _=>rfl) (fun d n K v=>by kernel_rfl) (by intros;simp only[YI,Nj,bn,bg,ae,aV,bi])
theorem ali:bZ aeQ=[afA]:=by kernel_rfl
theorem am5:cZ VY 107 aeQ:=bP aeQ (fun _=>rfl) (by rw[ali];exact(aC ⟨fL (by kernel_rfl) (akc),aN⟩))
theorem adh:bJ VY:=bz tok mixed bV (sg:=[(74,Sr),(90,Su)]) (aC ⟨(Ug),(aC ⟨(RD),aN⟩)⟩) (fn:=Tryz.f107) (c:=aeQ) (by kernel_rfl) (by kernel_rfl) (am5) bW bC
theorem Es:bD Tryz.prog 107 zM:=ed adh (by decide) fun x=>by kernel_rfl
def ail (x0:List UInt8) (x1:Bool):Option (Bool×Unit):=
 ai (KH x0 x1) fun y0=>
  bif y0.2.1 then
   some (true,())
  else
  bif(fD 0 (ah y0.1))then
   bif(dX y0.1 (ag .i64 (ah y0.1) 1))then
    bif(aH (af y0.1 (0,(0,(0,(false,())))) (ag .i64 (ah y0.1) 1)).1 7)then
     bif(dX y0.1 (ag .i64 (ah y0.1) 1))then
      bif(af y0.1 (0,(0,(0,(false,())))) (ag .i64 (ah y0.1) 1)).2.2.2.1 then
       some (true,())
      else
      bif(dX x0 (ag .i64 (ah x0) 1))then
       some ((!(aH (aI x0 (ag .i64 (ah x0) 1)) 10)),())
      else
      none
     else
     none
    else
    some (false,())
   else
   none
  else
  some (false,())
def ahP:Sum:=(⟨[.str,.bool],[(.bool,false)],fun x=>ail x.1 x.2.1⟩:Sum)
noncomputable def apq:Env:=dI Tryz.prog tt 51 [(107,zM)] [] []
theorem aga:bJ apq:=bz tok mixed bV (sg:=[(107,zM)]) (aC ⟨(Es),aN⟩) (fn:=Tryz.f51) (c:=(Tryz.f51.body).getD .skip) (by kernel_rfl) (by kernel_rfl) (aS (fun _=>rfl) (fun _=>rfl) _) bW bC
theorem agU:bD Tryz.prog 51 ahP:=ed aga (by decide) fun x=>by kernel_rfl
def aib (x0:List UInt8) (x1:Bool):Option (Bool×Unit):=
 ai (KH x0 x1) fun y0=>
  bif(fD 0 (ah y0.1))then
   bif(dX y0.1 (ag .i64 (ah y0.1) 1))then
    some ((aH (af y0.1 (0,(0,(0,(false,())))) (ag .i64 (ah y0.1) 1)).1 3),())
   else
   none
  else
  some (false,())
def aea:Sum:=(⟨[.str,.bool],[(.bool,false)],fun x=>aib x.1 x.2.1⟩:Sum)
noncomputable def arJ:Env:=dI Tryz.prog tt 52 [(107,zM)] [] []
theorem afL:bJ arJ:=bz tok mixed bV (sg:=[(107,zM)]) (aC ⟨(Es),aN⟩) (fn:=Tryz.f52) (c:=(Tryz.f52.body).getD .skip) (by kernel_rfl) (by kernel_rfl) (aS (fun _=>rfl) (fun _=>rfl) _) bW bC
theorem afl:bD Tryz.prog 52 aea:=ed afL (by decide) fun x=>by kernel_rfl
def ajv (x0:List UInt8) (x1:Bool):Option (Int×Unit):=
 ai (KH x0 x1) fun y0=>
  bif(fD 0 (ah y0.1))then
   bif(dX y0.1 (ag .i64 (ah y0.1) 1))then
    bif(aH (af y0.1 (0,(0,(0,(false,())))) (ag .i64 (ah y0.1) 1)).1 6)then
     bif(dX y0.1 (ag .i64 (ah y0.1) 1))then
      some ((af y0.1 (0,(0,(0,(false,())))) (ag .i64 (ah y0.1) 1)).2.1,())
     else
     none
    else
    some ((ah x0),())
   else
   none
  else
  some ((ah x0),())
def afF:Sum:=(⟨[.str,.bool],[(.int .i64,false)],fun x=>ajv x.1 x.2.1⟩:Sum)
noncomputable def arU:Env:=dI Tryz.prog tt 54 [(107,zM)] [] []
theorem ahK:bJ arU:=bz tok mixed bV (sg:=[(107,zM)]) (aC ⟨(Es),aN⟩) (fn:=Tryz.f54) (c:=(Tryz.f54.body).getD .skip) (by kernel_rfl) (by kernel_rfl) (aS (fun _=>rfl) (fun _=>rfl) _) bW bC
theorem agm:bD Tryz.prog 54 afF:=ed ahK (by decide) fun x=>by kernel_rfl
def akd (x0:List UInt8):Option ((List UInt8)×Unit):=
 ai (ail x0 false) fun y0=>
  bif y0.1 then
   some ([72],())
  else
  ai (aib x0 false) fun y1=>
   bif y1.1 then
    some ([84,35],())
   else
   ai (ajv x0 false) fun y2=>
    bif(bu (ah x0) y2.1 (ah x0))then
     ai (aeL (sub x0 y2.1 (ah x0))) fun y3=>
      some (y3.1.1,())
    else
    none
def ahq:Sum:=(⟨[.str],[(.str,false)],fun x=>akd x.1⟩:Sum)
noncomputable def ap2:Env:=dI Tryz.prog tt 19 [(51,ahP),(52,aea),(53,UJ),(54,afF)] [] []
theorem ag3:bJ ap2:=bz tok mixed bV (sg:=[(51,ahP),(52,aea),(53,UJ),(54,afF)]) (aC ⟨(agU),(aC ⟨(afl),(aC ⟨(UC),(aC ⟨(agm),aN⟩)⟩)⟩)⟩) (fn:=Tryz.f19) (c:=(Tryz.f19.body).getD .skip) (by kernel_rfl) (by kernel_rfl) (aS (fun _=>rfl) (fun _=>rfl) _) bW bC
theorem ad7:bD Tryz.prog 19 ahq:=ed ag3 (by decide) fun x=>by kernel_rfl
def fn5 (x0:List UInt8) (x1:Int):Option (Bool×Unit):=
 bif(fD 100 (ah x0))then
  some (true,())
 else
 ai (acV x0 x1) fun y0=>
  bif(fD x1 0)then
   bif(aH y0.2.1 1)then
    some ((cO y0.1 []),())
   else
   some (false,())
  else
  bif(fD (ah x0) x1)then
   bif(aH y0.2.1 1)then
    some ((cO y0.1 []),())
   else
   some (false,())
  else
  bif(aH y0.2.1 0)then
   bif(bu (ah x0) 0 x1)then
    ai (akd (sub x0 0 x1)) fun y1=>
     some ((cO y0.1 y1.1),())
   else
   none
  else
  some (false,())
def anb:Sum:=(⟨[.str,.int .i64],[(.bool,false)],fun x=>fn5 x.1 x.2.1⟩:Sum)
noncomputable def asE:Env:=dI Tryz.prog tt 5 [(15,Ah),(18,ahT),(19,ahq)] [] []
theorem ZE:bJ asE:=bz tok mixed bV (sg:=[(15,Ah),(18,ahT),(19,ahq)]) (aC ⟨(Ko),(aC ⟨(afE),(aC ⟨(ad7),aN⟩)⟩)⟩) (fn:=Tryz.f5) (c:=(Tryz.f5.body).getD .skip) (by kernel_rfl) (by kernel_rfl) (aS (fun _=>rfl) (fun _=>rfl) _) bW bC
theorem ath:bD Tryz.prog 5 anb:=ed ZE (by decide) fun x=>by kernel_rfl
end Go.Proofs.YtihafdllichkeaaGreatDoor
namespace Go.Proofs.YtihafdllichkeaaGreatDoor
open Go.RowKit
set_option linter.unusedVariables false
set_option linter.unusedSimpArgs false
set_option maxRecDepth 100000
def Jg (u:List UInt8) (k:Int) (op b:Bool):Bool:=b||(decide (k=7)&&(op|| !(aH (aI u (ah u-1)) 10)))
def zn (u:List UInt8) (t:Tok):Int:=if t.1=6 then t.2.1 else ah u
theorem al7 (u:List UInt8) (f d:Int) (l:List Tok) (hl:l.length<1000000) (b:Bool):
  Tv u f d l 0 0 0 false b=some ((u,(f,(d,(l,((iG l).1,((iG l).2.1,((iG l).2.2.1,((iG l).2.2.2.1,(b,()))))))))),()):=by
 rw[Tv]
 rcases List.eq_nil_or_concat l with h|⟨r,t,h⟩
 ·subst h;rfl
 ·rw[List.concat_eq_append]at h
  subst h
  obtain⟨h1,h2,h3⟩:=BJ r t (by rw[List.length_append]at hl;omega)
  rw[h1,cond_true,h2,cond_true]
  simp only[h3,xZ]
theorem aiQ (u:List UInt8) (hu:u.length<1000000) (f d:Int) (l:List Tok) (k fr to_:Int) (op b:Bool) (h7:k=7->u≠[]):
  afS u f d l k fr to_ op b=some ((u,(f,(d,(l,(k,(fr,(to_,(op,(b,()))))))))),(Jg u k op b,())):=by
 rw[afS]
 unfold Jg
 cases b with
 |true=>rfl
 |false=>
  rw[cond_false]
  by_cases h:k=7
  ·have hne:0<u.length:=List.length_pos_iff.2 (h7 h)
   rw[aK (dJ h)]
   cases op with
   |true=>simp[h]
   |false=>
    have hs:ag .i64 (ah u) 1=ah u-1:=fU (by rw[aB];omega) (by rw[aB];omega)
    rw[cond_false,hs,aK (dw (by rw[aB];omega) (by rw[aB];omega))]
    simp[h]
  ·rw[aU (bU h)];simp[h]
theorem ajs (u:List UInt8) (f d:Int) (l:List Tok) (k fr to_:Int) (op b:Bool):
  adW u f d l k fr to_ op b=some ((u,(f,(d,(l,(k,(fr,(to_,(op,(b,()))))))))),(if k=6 then fr else ah u,())):=by
 rw[adW]
 by_cases h:k=6
 ·rw[aK (dJ h),if_pos h]
 ·rw[aU (bU h),if_neg h]
theorem GU {u:List UInt8} (hu:u.length<=10000):KH u false=some ((gW u).1,((gW u).2.2.2.1,())):=by
 rw[KH,Bool.not_false,cond_true,akj hu,ae]
theorem amQ {u:List UInt8} (hu:u.length<=10000):ail u false=some (Jg u (iG (gW u).1).1 (iG (gW u).1).2.2.2.1 (gW u).2.2.2.1,()):=by
 have hk:=Du hu
 rw[ail,GU hu,ae]
 unfold Jg
 simp only
 cases (gW u).2.2.2.1 with
 |true=>rfl
 |false=>
  rw[cond_false]
  rcases List.eq_nil_or_concat (gW u).1 with e|⟨r,t,e⟩
  ·rw[e];rfl
  ·rw[List.concat_eq_append]at e
   have hl:=(uS hu).2.2
   rw[e,List.length_append]at hl
   rw[e,xZ]at hk ⊢
   obtain⟨h1,h2,h3⟩:=BJ r t (by omega)
   rw[h1,cond_true,h2,cond_true]
   simp only[h3]
   by_cases h:t.1=7
   ·have hne:0<u.length:=List.length_pos_iff.2 (hk (by omega)).2.2
    have hs:ag .i64 (ah u) 1=ah u-1:=fU (by rw[aB];omega) (by rw[aB];omega)
    rw[aK (dJ h),cond_true]
    cases t.2.2.2.1 with
    |true=>simp[h]
    |false=>
     rw[cond_false,hs,aK (dw (by rw[aB];omega) (by rw[aB];omega))]
     simp[h]
   ·rw[aU (bU h)];simp[h]
theorem acH {u:List UInt8} (hu:u.length<=10000):aib u false=some (aH (iG (gW u).1).1 3,()):=by
 rw[aib,GU hu,ae]
 simp only
 rcases List.eq_nil_or_concat (gW u).1 with e|⟨r,t,e⟩
 ·rw[e];rfl
 ·rw[List.concat_eq_append]at e
  have hl:=(uS hu).2.2
  rw[e,List.length_append]at hl
  rw[e,xZ]
  obtain⟨h1,h2,h3⟩:=BJ r t (by omega)
  rw[h1,cond_true,h2,cond_true]
  simp only[h3]
theorem am1 {u:List UInt8} (hu:u.length<=10000):ajv u false=some (zn u (iG (gW u).1),()):=by
 rw[ajv,GU hu,ae]
 unfold zn
 simp only
 rcases List.eq_nil_or_concat (gW u).1 with e|⟨r,t,e⟩
 ·rw[e];rfl
 ·rw[List.concat_eq_append]at e
  have hl:=(uS hu).2.2
  rw[e,List.length_append]at hl
  rw[e,xZ]
  obtain⟨h1,h2,h3⟩:=BJ r t (by omega)
  rw[h1,cond_true,h2,cond_true]
  simp only[h3]
  by_cases h:t.1=6
  ·rw[aK (dJ h),cond_true,if_pos h]
  ·rw[aU (bU h),if_neg h]
theorem Tn {u:List UInt8} (hu:u.length<=10000):0<=zn u (iG (gW u).1)/\zn u (iG (gW u).1)<=ah u:=by
 unfold zn
 split
 ·rename_i h
  have:=Du hu (by omega)
  rw[aB];omega
 ·rw[aB];omega
theorem MX (F:List yH) (hF:F.length<1000000) (hm: ∀f∈F,0<=f.1/\f.1<=14): ∀(N k:Nat) (t:List UInt8),F.length-k<N->k<=F.length->t.length<=k->
  zQ N F (ah F) (k:Int) (ak t)=some (.inl ((),(ak (t++(F.drop k).map fun f=>letter f.1),())))
 |0,k,t,h,_,_=>by omega
 |N+1,k,t,h,hk,ht=>by
  rw[zQ,OA]
  by_cases e:k<F.length
  ·have hg:af F (0,(0,())) (k:Int)=F[k]:=by
    unfold af
    rw[Int.toNat_natCast,List.getD_eq_getElem?_getD,List.getElem?_eq_getElem e];rfl
   obtain⟨m0,m1⟩:=hm _ (List.getElem_mem e)
   rw[aK (dM (by rw[aB];omega)),aK (dw (by omega) (by omega)),hg,aU (iq m0),aU (Fh (by omega)),
    aK (dw m0 (by simp only[List.length_cons,List.length_nil];omega))]
   have hb:([aI [84,67,80,79,83,68,66,86,73,65,82,69,76,88,35] F[k].1]:List Int)=ak [letter F[k].1]:=rfl
   rw[hb,nz,aK (zf (by rw[List.length_append,List.length_singleton];omega)),bI (by omega) (by omega),show(k:Int)+1=((k+1:Nat):Int) by omega,
    MX F hF hm N (k+1) _ (by omega) (by omega) (by rw[List.length_append,List.length_singleton];omega),List.drop_eq_getElem_cons e,List.map_cons,List.append_assoc]
   rfl
  ·rw[aU (gm (by rw[aB];omega)),List.drop_of_length_le (by omega),List.map_nil,List.append_nil]
theorem alz {F:List yH} (hF:F.length<1000000) (hm: ∀f∈F,0<=f.1/\f.1<=14):ah8 F=some (F.map fun f=>letter f.1,()):=by
 have h:=MX F hF hm aO 0 [] (dh (by omega)) (by omega) (by simp)
 have hc:adQ (ah F) 1=true:=by
  unfold adQ jh ah
  rw[Int.toNat_natCast]
  exact decide_eq_true (by omega)
 rw[ah8,hc,show(leI 0 0&&(leI 0 (ah F)&&true))=true by rw[qj (show(0:Int)<=ah F by rw[aB];omega)];rfl,cond_true,
  show zQ aO F (ah F) 0 (ari (au 0) 0)=_ from h,ae]
 simp only[bF,zK,List.drop_zero,List.nil_append]
theorem aqx (s:dm):(lo s).map (fun f=>letter f.1)=so s:=by
 unfold lo so
 rw[List.map_reverse,List.map_map];rfl
def QY (u:List UInt8):List UInt8:=
 if Jg u (iG (gW u).1).1 (iG (gW u).1).2.2.2.1 (gW u).2.2.2.1=true then [72]
 else if aH (iG (gW u).1).1 3=true then [84,35]
 else so (jq (sub u (zn u (iG (gW u).1)) (ah u)) 0 bY).1
theorem aih {u:List UInt8} (hu:u.length<=10000):akd u=some (QY u,()):=by
 have hw:=Tn hu
 have hl:=qh u (zn u (iG (gW u).1)) (ah u)
 unfold QY
 rw[akd,amQ hu,ae]
 simp only
 cases Jg u (iG (gW u).1).1 (iG (gW u).1).2.2.2.1 (gW u).2.2.2.1 with
 |true=>rfl
 |false=>
  rw[cond_false,if_neg (by simp),acH hu,ae]
  simp only
  cases aH (iG (gW u).1).1 3 with
  |true=>rfl
  |false=>
   rw[cond_false,if_neg (by simp),am1 hu,ae]
   simp only
   rw[aK (dC hw.1 hw.2 (by omega)),akI _ (by omega),ae]
   rfl
theorem ajP {s:List UInt8} (hs:s.length<=10000) {c:Int} (h0:0<=c) (hc:c<=s.length):acV s c=some (QY (sub s 0 c),(0,())):=by
 have hu:(sub s 0 c).length<=10000:=Nat.le_trans (qh s 0 c) hs
 rw[acV,aU (iq h0),aU (iq (by rw[aB];omega)),aK (dC (by omega) h0 (by rw[aB];omega))]
 generalize sub s 0 c=u at hu
 have hw:=Tn hu
 have hl:=qh u (zn u (iG (gW u).1)) (ah u)
 have hk:=Du hu
 have hlen:=(uS hu).2.2
 rw[apn hu,ae]
 simp only
 rw[al7 u 0 0 _ (by omega),ae]
 simp only
 rw[aiQ u (by omega) 0 0 _ _ _ _ _ _ (fun h=>(hk (by omega)).2.2),ae]
 unfold QY
 simp only
 cases Jg u (iG (gW u).1).1 (iG (gW u).1).2.2.2.1 (gW u).2.2.2.1 with
 |true=>rfl
 |false=>
  rw[cond_false,if_neg (by simp)]
  cases aH (iG (gW u).1).1 3 with
  |true=>rfl
  |false=>
   have hww:(if(iG (gW u).1).1=6 then(iG (gW u).1).2.1 else ah u)=zn u (iG (gW u).1):=rfl
   rw[cond_false,if_neg (by simp),ajs,ae,hww]
   simp only
   rw[jD,cond_true,aK (dC hw.1 hw.2 (by omega)),akl _ (by omega),ae,cond_true]
   have hg:=ul (sub u (zn u (iG (gW u).1)) (ah u)) 0 bY iC
   have hfl:bY.1.length=1:=rfl
   have hm:=uU hg.1
   simp only
   rw[alz (by rw[jk];omega) (fun f hf=>by
    unfold lo at hf
    rw[List.mem_reverse,List.mem_map]at hf
    obtain⟨g,hg1,rfl⟩:=hf
    exact hm g hg1),ae,aqx]
theorem acI (s:List UInt8) (c:Int):fn5 s c=some (true,()):=by
 rw[fn5]
 by_cases h:s.length<=100
 ·rw[aU (iq (by rw[aB];omega))]
  by_cases h0:0<=c
  ·by_cases hc:c<=s.length
   ·rw[ajP (by omega) h0 hc,ae,aU (iq h0),aU (iq (by rw[aB];omega))]
    simp only
    rw[show aH 0 0=true from rfl,cond_true,aK (dC (by omega) h0 (by rw[aB];omega)),aih (Nat.le_trans (qh s 0 c) (by omega)),ae,jD]
   ·have hlt:fD (ah s) c=true:=dM (by rw[aB];omega)
    rw[acV,aU (iq h0),hlt,cond_true,ae,aU (iq h0),cond_true];rfl
  ·have hlt:fD c 0=true:=dM (by omega)
   rw[acV,hlt,cond_true,ae,cond_true];rfl
 ·rw[aK (dM (by rw[aB];omega))]
end Go.Proofs.YtihafdllichkeaaGreatDoor
