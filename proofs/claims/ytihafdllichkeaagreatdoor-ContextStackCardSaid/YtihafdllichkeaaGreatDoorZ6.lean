/- Parts of the proof, joined and shortened by a program: the plain machine, the functions as it prints them, and the mathematics over them. -/
import Derived.Test.YtihafdllichkeaaGreatDoorZ5
namespace Go.Proofs.YtihafdllichkeaaGreatDoor
open Go.RowKit
set_option linter.unusedVariables false
set_option linter.unusedSimpArgs false
set_option maxRecDepth 100000
set_option maxHeartbeats 4000000
def ag6 (x0:List UInt8) (x1:Int) (x2:Int×(List ((List UInt8)×(Bool×Unit)))×(Bool×Unit)):Option ((Int×Int×Int×Bool×Unit)×(Int×(List ((List UInt8)×(Bool×Unit)))×(Bool×Unit))×Unit):=
 bif(dX x2.2.1 0)then
  ai (Yf x0 x1 (af x2.2.1 ([],(false,())) 0)) fun y0=>
   bif(!y0.2.1)then
    bif((aH x2.1 x2.1)&&((dR (.pair .str (.pair .bool .unit)) x2.2.1 x2.2.1)&&((fF x2.2.2.1 x2.2.2.1)&&true)))then
     some ((7,(x1,(y0.1,((!y0.2.1),())))),((x2.1,(x2.2.1,(x2.2.2.1,()))),()))
    else
    none
   else
   bif(bu (ah x2.2.1) 1 (ah x2.2.1))then
    ai (mJ (sub x2.2.1 1 (ah x2.2.1))) fun y1=>
     bif(aH x2.1 x2.1)then
      bif(aH (ah y1.1) (ah y1.1))then
       bif(fF (fD 0 (ah y1.1)) (fD 0 (ah y1.1)))then
        bif((aH x2.1 x2.1)&&((fF (fD 0 (ah y1.1)) (fD 0 (ah y1.1)))&&true))then
         some ((7,(x1,(y0.1,((!y0.2.1),())))),((x2.1,(y1.1,((fD 0 (ah y1.1)),()))),()))
        else
        none
       else
       none
      else
      none
     else
     none
   else
   none
 else
 none
def XR:Sum:=(⟨[.str,.int .i64,.pair (.int .i64) (.pair (.list (.pair .str (.pair .bool .unit))) (.pair .bool .unit))],[(.pair (.int .i64) (.pair (.int .i64) (.pair (.int .i64) (.pair .bool .unit))),false),(.pair (.int .i64) (.pair (.list (.pair .str (.pair .bool .unit))) (.pair .bool .unit)),false)],fun x=>ag6 x.1 x.2.1 x.2.2.1⟩:Sum)
noncomputable def amZ:Env:=dH Tryz.prog tt 210 [(261,Wi),(262,lF)] [] []
theorem adc:bJ amZ:=bz tok mixed bV (sg:=[(261,Wi),(262,lF)]) (aC ⟨(abW),(aC ⟨(qj),aN⟩)⟩) (fn:=Tryz.f210) (c:=(Tryz.f210.body).getD .skip) (by kernel_rfl) (by kernel_rfl) (aS (fun _=>rfl) (fun _=>rfl) _) bW bC
theorem acL:bD Tryz.prog 210 XR:=ed adc (by decide) fun x=>by kernel_rfl
def Ru (x0:Int×Int×Int×Int×Bool×Unit):Option (Bool×Unit):=
 bif(aH x0.1 12)then
  some ((aH x0.2.2.1 (aG .i64 x0.2.1 1)),())
 else
 some (false,())
def XP:Sum:=(⟨[.pair (.int .i64) (.pair (.int .i64) (.pair (.int .i64) (.pair (.int .i64) (.pair .bool .unit))))],[(.bool,false)],fun x=>Ru x.1⟩:Sum)
noncomputable def ant:Env:=dH Tryz.prog tt 222 [] [] []
theorem aau:bJ ant:=bz tok mixed bV (sg:=[]) aN (fn:=Tryz.f222) (c:=(Tryz.f222.body).getD .skip) (by kernel_rfl) (by kernel_rfl) (aS (fun _=>rfl) (fun _=>rfl) _) bW bC
theorem acV:bD Tryz.prog 222 XP:=ed aau (by decide) fun x=>by kernel_rfl
def pY (x0:Int×Int×Int×Int×Bool×Unit):Option (Int×Int×Unit):=
 bif(aH x0.1 1)then
  bif(aH x0.1 1)then
   bif x0.2.2.2.2.1 then
    some ((aG .i64 x0.2.1 2),((iM (ag .i64 x0.2.2.1 0) (aG .i64 x0.2.1 2)),()))
   else
   some ((aG .i64 x0.2.1 2),((iM (ag .i64 x0.2.2.1 1) (aG .i64 x0.2.1 2)),()))
  else
  bif(aH x0.1 9)then
   bif x0.2.2.2.2.1 then
    some ((aG .i64 x0.2.1 3),((iM (ag .i64 x0.2.2.1 0) (aG .i64 x0.2.1 3)),()))
   else
   some ((aG .i64 x0.2.1 3),((iM (ag .i64 x0.2.2.1 2) (aG .i64 x0.2.1 3)),()))
  else
  bif(aH x0.1 13)then
   bif(aH x0.1 13)then
    bif x0.2.2.2.2.1 then
     some ((aG .i64 x0.2.1 1),((iM (ag .i64 x0.2.2.1 0) (aG .i64 x0.2.1 1)),()))
    else
    some ((aG .i64 x0.2.1 1),((iM (ag .i64 x0.2.2.1 0) (aG .i64 x0.2.1 1)),()))
   else
   bif x0.2.2.2.2.1 then
    some ((aG .i64 x0.2.1 1),((iM (ag .i64 x0.2.2.1 0) (aG .i64 x0.2.1 1)),()))
   else
   some ((aG .i64 x0.2.1 1),((iM (ag .i64 x0.2.2.1 1) (aG .i64 x0.2.1 1)),()))
  else
  bif(aH x0.1 12)then
   bif x0.2.2.2.2.1 then
    some ((aG .i64 x0.2.1 1),((iM (ag .i64 x0.2.2.1 0) (aG .i64 x0.2.1 1)),()))
   else
   some ((aG .i64 x0.2.1 1),((iM (ag .i64 x0.2.2.1 0) (aG .i64 x0.2.1 1)),()))
  else
  bif x0.2.2.2.2.1 then
   some ((aG .i64 x0.2.1 1),((iM (ag .i64 x0.2.2.1 0) (aG .i64 x0.2.1 1)),()))
  else
  some ((aG .i64 x0.2.1 1),((iM (ag .i64 x0.2.2.1 1) (aG .i64 x0.2.1 1)),()))
 else
 bif(aH x0.1 7)then
  bif(aH x0.1 7)then
   bif x0.2.2.2.2.1 then
    some ((aG .i64 x0.2.1 2),((iM (ag .i64 x0.2.2.1 0) (aG .i64 x0.2.1 2)),()))
   else
   some ((aG .i64 x0.2.1 2),((iM (ag .i64 x0.2.2.1 1) (aG .i64 x0.2.1 2)),()))
  else
  bif(aH x0.1 9)then
   bif x0.2.2.2.2.1 then
    some ((aG .i64 x0.2.1 3),((iM (ag .i64 x0.2.2.1 0) (aG .i64 x0.2.1 3)),()))
   else
   some ((aG .i64 x0.2.1 3),((iM (ag .i64 x0.2.2.1 2) (aG .i64 x0.2.1 3)),()))
  else
  bif(aH x0.1 13)then
   bif(aH x0.1 13)then
    bif x0.2.2.2.2.1 then
     some ((aG .i64 x0.2.1 1),((iM (ag .i64 x0.2.2.1 0) (aG .i64 x0.2.1 1)),()))
    else
    some ((aG .i64 x0.2.1 1),((iM (ag .i64 x0.2.2.1 0) (aG .i64 x0.2.1 1)),()))
   else
   bif x0.2.2.2.2.1 then
    some ((aG .i64 x0.2.1 1),((iM (ag .i64 x0.2.2.1 0) (aG .i64 x0.2.1 1)),()))
   else
   some ((aG .i64 x0.2.1 1),((iM (ag .i64 x0.2.2.1 1) (aG .i64 x0.2.1 1)),()))
  else
  bif(aH x0.1 12)then
   bif x0.2.2.2.2.1 then
    some ((aG .i64 x0.2.1 1),((iM (ag .i64 x0.2.2.1 0) (aG .i64 x0.2.1 1)),()))
   else
   some ((aG .i64 x0.2.1 1),((iM (ag .i64 x0.2.2.1 0) (aG .i64 x0.2.1 1)),()))
  else
  bif x0.2.2.2.2.1 then
   some ((aG .i64 x0.2.1 1),((iM (ag .i64 x0.2.2.1 0) (aG .i64 x0.2.1 1)),()))
  else
  some ((aG .i64 x0.2.1 1),((iM (ag .i64 x0.2.2.1 1) (aG .i64 x0.2.1 1)),()))
 else
 bif(aH x0.1 8)then
  bif x0.2.2.2.2.1 then
   some ((aG .i64 x0.2.1 2),((iM (ag .i64 x0.2.2.1 0) (aG .i64 x0.2.1 2)),()))
  else
  some ((aG .i64 x0.2.1 2),((iM (ag .i64 x0.2.2.1 1) (aG .i64 x0.2.1 2)),()))
 else
 bif(aH x0.1 9)then
  bif x0.2.2.2.2.1 then
   some ((aG .i64 x0.2.1 3),((iM (ag .i64 x0.2.2.1 0) (aG .i64 x0.2.1 3)),()))
  else
  some ((aG .i64 x0.2.1 3),((iM (ag .i64 x0.2.2.1 2) (aG .i64 x0.2.1 3)),()))
 else
 bif(aH x0.1 13)then
  bif(aH x0.1 13)then
   bif x0.2.2.2.2.1 then
    some ((aG .i64 x0.2.1 1),((iM (ag .i64 x0.2.2.1 0) (aG .i64 x0.2.1 1)),()))
   else
   some ((aG .i64 x0.2.1 1),((iM (ag .i64 x0.2.2.1 0) (aG .i64 x0.2.1 1)),()))
  else
  bif x0.2.2.2.2.1 then
   some ((aG .i64 x0.2.1 1),((iM (ag .i64 x0.2.2.1 0) (aG .i64 x0.2.1 1)),()))
  else
  some ((aG .i64 x0.2.1 1),((iM (ag .i64 x0.2.2.1 1) (aG .i64 x0.2.1 1)),()))
 else
 bif(aH x0.1 12)then
  bif x0.2.2.2.2.1 then
   some ((aG .i64 x0.2.1 1),((iM (ag .i64 x0.2.2.1 0) (aG .i64 x0.2.1 1)),()))
  else
  some ((aG .i64 x0.2.1 1),((iM (ag .i64 x0.2.2.1 0) (aG .i64 x0.2.1 1)),()))
 else
 bif x0.2.2.2.2.1 then
  some ((aG .i64 x0.2.1 1),((iM (ag .i64 x0.2.2.1 0) (aG .i64 x0.2.1 1)),()))
 else
 some ((aG .i64 x0.2.1 1),((iM (ag .i64 x0.2.2.1 1) (aG .i64 x0.2.1 1)),()))
def We:Sum:=(⟨[.pair (.int .i64) (.pair (.int .i64) (.pair (.int .i64) (.pair (.int .i64) (.pair .bool .unit))))],[(.int .i64,false),(.int .i64,false)],fun x=>pY x.1⟩:Sum)
noncomputable def amn:Env:=dH Tryz.prog tt 280 [] [] []
theorem aaJ:bJ amn:=bz tok mixed bV (sg:=[]) aN (fn:=Tryz.f280) (c:=(Tryz.f280.body).getD .skip) (by kernel_rfl) (by kernel_rfl) (aS (fun _=>rfl) (fun _=>rfl) _) bW bC
theorem acd:bD Tryz.prog 280 We:=ed aaJ (by decide) fun x=>by kernel_rfl
noncomputable def OG:Code:=(Tryz.f270.body).getD .skip
noncomputable def xy:Code:=(Tryz.f159.body).getD .skip
noncomputable def xg:Code:=(Tryz.f219.body).getD .skip
noncomputable def xR:Code:=(Tryz.f224.body).getD .skip
noncomputable def Jd:Code:=cA (cA (cB (cA (cB (cB (xy))))))
noncomputable def Ja:Code:=cA (cA (cB (cA (cB (cB (cB (cA (cB (xg)))))))))
noncomputable def Ig:Code:=cA (cA (cB (cA (cB (cB (cB (cB (xR))))))))
def Jw:dB:=⟨[3,15,16,17,160000003],[],[3],[],[2],[]⟩
def G9:dB:=⟨[1,2,3,4,5,220000004],[(300000300,.pair (.list .unit) (.int .u8))],[4],[],[],[]⟩
def Jg:dB:=⟨[0,2,8,9,10,11,225000005],[(9,(.int .u8))],[2,9,10],[],[6],[]⟩
def aiY:dB:=⟨[2,3],[],[],[],[],[]⟩
def ajf:dB:=⟨[0,2,3],[],[],[],[],[]⟩
def air:dB:=⟨[3,4],[],[],[],[],[]⟩
def aiK:dB:=⟨[3],[],[],[],[],[]⟩
def VG:dB:=⟨[0,1],[],[],[],[],[]⟩
def Rw:dB:=⟨[1,2,3,4,5],[],[],[],[],[]⟩
def Ou:dB:=⟨[1,2,3,4,5,6],[],[],[],[],[]⟩
def NM:dB:=⟨[1,2,3,4,5,8,9],[],[],[],[],[]⟩
def Rl:dB:=⟨[1,2,3,4,5,6],[],[],[],[],[]⟩
def QK:dB:=⟨[1,2,3,4,5,6],[],[],[],[],[]⟩
def Qz:dB:=⟨[4],[],[],[],[],[]⟩
def RG:dB:=⟨[1,3],[],[],[],[],[]⟩
def Ua:dB:=⟨[0,2,8,9,10,11],[],[],[],[],[]⟩
def OB:dB:=⟨[0,2,8,9,10,12],[],[],[],[],[]⟩
def RN:dB:=⟨[0,2,8,9,12],[],[],[],[],[]⟩
def SL:dB:=⟨[0,2,8,12],[],[],[],[],[]⟩
def Ql:dB:=⟨[2,9],[],[],[],[],[]⟩
def uG:SQ:=⟨us [.u,.u,.u,.ptr 2000011 0,.u,.u,.u,.u,.u,.u,.u,.u,.u,.u,.u,.v (.list (.pair (.int .i64) (.pair (.int .i64) (.pair (.int .i64) (.pair (.int .i64) (.pair .bool .unit)))))),.v (.int .i64),.v (.int .i64)] 14,[us [.v .str,.u,.v .str,.ptr 1000003 0,.u,.v .str] 7,[]],[.box 2000011 268 [.v .str,.v (.list (.pair (.int .i64) (.pair (.int .i64) (.pair (.int .i64) (.pair (.int .i64) (.pair .bool .unit)))))),.mpv 2000009],.mp 2000009 .i64 .i64,.box 1000003 132 [.slf 1000003,.slc 1500003],.arr 1500003 (.int .u8)]⟩
def xQ:SQ:=⟨us [.u,.u,.u,.ptr 2000011 0] 28,[us [.v .str,.u,.v .str,.ptr 1000003 0,.u,.v .str] 7,[]],[.box 2000011 268 [.v .str,.v (.list (.pair (.int .i64) (.pair (.int .i64) (.pair (.int .i64) (.pair (.int .i64) (.pair .bool .unit)))))),.mpv 2000009],.mp 2000009 .i64 .i64,.box 1000003 132 [.slf 1000003,.slc 1500003],.arr 1500003 (.int .u8)]⟩
def xZ:SQ:=⟨us [] 112,[us [.u,.u,.v .str,.ptr 1000003 0] 9,[.yld 1700008],[]],[.box 2000011 268 [.v .str,.v (.list (.pair (.int .i64) (.pair (.int .i64) (.pair (.int .i64) (.pair (.int .i64) (.pair .bool .unit)))))),.mpv 2000009],.mp 2000009 .i64 .i64,.box 2000001 218 [.ptr 2000011 0],.lp 1700008 270 (us [.u,.u,.v .str,.ptr 1000003 0] 9) [8] 4 0 none,.arr 1500003 (.int .u8),.box 1000003 132 [.slf 1000003,.slc 1500003]]⟩
def rW {γ:Type} (rec:(List (Int×Int×Int×Int×Bool×Unit))->Int->Int->(List UInt8)->(List UInt8)->(List UInt8)->(List UInt8)->(List (Int×Int×Int×Int×Bool×Unit))->(List (Int×Int))->(List (Int))->Option γ) (kE:(List UInt8)->(List UInt8)->(List UInt8)->(List UInt8)->(List (Int×Int×Int×Int×Bool×Unit))->(List (Int×Int))->(List (Int))->Option γ) (kR:(List UInt8)->(List UInt8)->(List (Int×Int×Int×Int×Bool×Unit))->(List (Int×Int))->(List UInt8)->(List (Int))->Option γ) (v0:List (Int×Int×Int×Int×Bool×Unit)) (v1:Int) (v2:Int) (v3:List UInt8) (v4:List UInt8) (v5:List UInt8) (v6:List UInt8) (v7:List (Int×Int×Int×Int×Bool×Unit)) (v8:List (Int×Int)) (v9:List (Int)):Option γ:=
 bif(fD v2 v1)then
  bif(dX v0 v2)then
   rec v0 v1 (aG .i64 v2 1) v3 v4 v5 v6 v7 (oK v8 (af v0 (0,(0,(0,(0,(false,()))))) v2).2.1 (aG .i64 v2 1)) v9
  else
  none
 else
 kE v3 v4 v5 v6 v7 v8 v9
def jV:Nat->(List (Int×Int×Int×Int×Bool×Unit))->Int->Int->(List UInt8)->(List UInt8)->(List UInt8)->(List UInt8)->(List (Int×Int×Int×Int×Bool×Unit))->(List (Int×Int))->(List (Int))->Option (xQ.den⊕xZ.den)
 |0,_,_,_,_,_,_,_,_,_,_=>none
 |n+1,v0,v1,v2,v3,v4,v5,v6,v7,v8,v9=>rW (jV n) (fun e0 e1 e2 e3 e4 e5 e6=>some (.inl ((),((e0,e1,e2,()),(),()),((e3,e4,()),e5,(),e6,())))) (fun r0 r1 r2 r3 r4 r5=>some (.inr ((),((r0,()),(),(),()),((r1,r2,()),r3,(),(r4,()),r5,(),())))) v0 v1 v2 v3 v4 v5 v6 v7 v8 v9
noncomputable def ED:bG:=gQ Jw uG xQ xZ (.exit 0) (fun v=>jV aO v.1.1 v.1.2.1 v.1.2.2.1 v.2.1.1.1 v.2.1.1.2.1 v.2.1.1.2.2.1 v.2.2.1.1 v.2.2.1.2.1 v.2.2.2.1 v.2.2.2.2.2.1) 6
def uS:SQ:=⟨us [.ptr 2000011 0,.u,.yld 1700008,.u,.u,.u,.u,.u,.v (.int .i64),.slc 4800009,.v .bool,.v (.int .i64)] 83,[[.u,.ptr 2000001 0,.ptr 3000002 0,.ptr 3000003 0,.fn 220 [(3000003,0),(3000002,0)],.v (.int .i64),.ptr 3000006 0,.u,.u,.u,.u,.u,.u,.u,.u,.u,.u,.u,.u,.u,.u,.u,.u,.u,.u,.u,.u,.u,.u,.u,.u,.u,.u,.u,.u,.u,.u,.u,.u,.u,.u,.u,.u,.u,.u,.u,.u,.u,.u,.u,.u,.u,.u,.u,.u,.u,.u,.u,.u,.u,.u,.u,.u,.u,.u,.u,.u,.u,.u,.u,.u,.u,.u,.u,.u,.u,.u,.u,.u,.u,.u,.u,.u,.u,.u,.u,.u,.u,.u,.u,.u,.u,.u,.u,.u,.u,.u,.u,.u,.u,.u,.fn 220 [(3000003,0),(3000002,0)],.v .bool,.v .bool,.ptr 2000011 0,.v (.pair (.int .i64) (.pair (.int .i64) (.pair (.int .i64) (.pair (.int .i64) (.pair .bool .unit))))),.yld 1700008,.u,.u,.u,.u,.u],us [.u,.u,.v .str,.ptr 1000003 0] 9,[.yld 1700008],[]],[.arr 4800009 (.int .u8),.box 3000006 215 [.v (.int .i64),.v (.int .i64),.v (.int .i64),.v (.int .i64),.v .bool],.arr 3500003 (.int .u8),.box 3000003 111 [.nils],.box 3000002 269 [.yld 1700008],.box 2000011 268 [.v .str,.v (.list (.pair (.int .i64) (.pair (.int .i64) (.pair (.int .i64) (.pair (.int .i64) (.pair .bool .unit)))))),.mpv 2000009],.mp 2000009 .i64 .i64,.box 2000001 218 [.ptr 2000011 0],.lp 1700008 270 (us [.u,.u,.v .str,.ptr 1000003 0] 9) [8] 4 0 none,.arr 1500003 (.int .u8),.box 1000003 132 [.slf 1000003,.slc 1500003]]⟩
def wZ:SQ:=⟨us [.u,.u,.yld 1700008,.u,.u,.u,.u,.u,.u,.slc 4800009,.v .bool] 84,[[.u,.ptr 2000001 0,.ptr 3000002 0,.ptr 3000003 0,.fn 220 [(3000003,0),(3000002,0)],.v (.int .i64),.ptr 3000006 0,.u,.u,.u,.u,.u,.u,.u,.u,.u,.u,.u,.u,.u,.u,.u,.u,.u,.u,.u,.u,.u,.u,.u,.u,.u,.u,.u,.u,.u,.u,.u,.u,.u,.u,.u,.u,.u,.u,.u,.u,.u,.u,.u,.u,.u,.u,.u,.u,.u,.u,.u,.u,.u,.u,.u,.u,.u,.u,.u,.u,.u,.u,.u,.u,.u,.u,.u,.u,.u,.u,.u,.u,.u,.u,.u,.u,.u,.u,.u,.u,.u,.u,.u,.u,.u,.u,.u,.u,.u,.u,.u,.u,.u,.u,.fn 220 [(3000003,0),(3000002,0)],.v .bool,.v .bool,.ptr 2000011 0,.v (.pair (.int .i64) (.pair (.int .i64) (.pair (.int .i64) (.pair (.int .i64) (.pair .bool .unit))))),.yld 1700008,.u,.u,.u,.u,.u],us [.u,.u,.v .str,.ptr 1000003 0] 9,[.yld 1700008],[]],[.arr 4800009 (.int .u8),.box 3000006 215 [.v (.int .i64),.v (.int .i64),.v (.int .i64),.v (.int .i64),.v .bool],.arr 3500003 (.int .u8),.box 3000003 111 [.nils],.box 3000002 269 [.yld 1700008],.box 2000011 268 [.v .str,.v (.list (.pair (.int .i64) (.pair (.int .i64) (.pair (.int .i64) (.pair (.int .i64) (.pair .bool .unit)))))),.mpv 2000009],.mp 2000009 .i64 .i64,.box 2000001 218 [.ptr 2000011 0],.lp 1700008 270 (us [.u,.u,.v .str,.ptr 1000003 0] 9) [8] 4 0 none,.arr 1500003 (.int .u8),.box 1000003 132 [.slf 1000003,.slc 1500003]]⟩
def xw:SQ:=⟨us [] 112,[us [.u,.u,.v .str,.ptr 1000003 0] 9,[.yld 1700008],[]],[.box 2000011 268 [.v .str,.v (.list (.pair (.int .i64) (.pair (.int .i64) (.pair (.int .i64) (.pair (.int .i64) (.pair .bool .unit)))))),.mpv 2000009],.mp 2000009 .i64 .i64,.box 2000001 218 [.ptr 2000011 0],.lp 1700008 270 (us [.u,.u,.v .str,.ptr 1000003 0] 9) [8] 4 0 none,.arr 1500003 (.int .u8),.box 1000003 132 [.slf 1000003,.slc 1500003]]⟩
def qX {γ:Type} (rec:Int->Bool->Int->Int->Bool->Bool->(Int×Int×Int×Int×Bool×Unit)->(List UInt8)->(List (Int))->Int->Int->Int->Int->Bool->(List (Int))->(List UInt8)->(List (Int×Int×Int×Int×Bool×Unit))->(List (Int×Int))->(List UInt8)->(List (Int))->Option γ) (kE:Bool->Int->Bool->Bool->(Int×Int×Int×Int×Bool×Unit)->(List UInt8)->(List (Int))->Int->Int->Int->Int->Bool->(List (Int))->(List UInt8)->(List (Int×Int×Int×Int×Bool×Unit))->(List (Int×Int))->(List UInt8)->(List (Int))->Option γ) (kR:(List UInt8)->(List UInt8)->(List (Int×Int×Int×Int×Bool×Unit))->(List (Int×Int))->(List UInt8)->(List (Int))->Option γ) (v0:Int) (v1:Bool) (v2:Int) (v3:Int) (v4:Bool) (v5:Bool) (v6:Int×Int×Int×Int×Bool×Unit) (v7:List UInt8) (v8:List (Int)) (v9:Int) (v10:Int) (v11:Int) (v12:Int) (v13:Bool) (v14:List (Int)) (v15:List UInt8) (v16:List (Int×Int×Int×Int×Bool×Unit)) (v17:List (Int×Int)) (v18:List UInt8) (v19:List (Int)):Option γ:=
 bif(fD v2 v0)then
  bif(aH (ax v17 v2) 0)then
   bif(dX v15 v2)then
    bif(aZ (az v8 [(aI v15 v2)]) 1)then
     rec v0 v1 (aG .i64 v2 1) v3 v4 v5 v6 v7 (az v8 [(aI v15 v2)]) v9 v10 v11 v12 v13 v14 v15 v16 v17 v18 v19
    else
    none
   else
   none
  else
  bif(dX v16 (ag .i64 (ax v17 v2) 1))then
   ai (Ru ((af v16 (0,(0,(0,(0,(false,()))))) (ag .i64 (ax v17 v2) 1)).1,((af v16 (0,(0,(0,(0,(false,()))))) (ag .i64 (ax v17 v2) 1)).2.1,((af v16 (0,(0,(0,(0,(false,()))))) (ag .i64 (ax v17 v2) 1)).2.2.1,((af v16 (0,(0,(0,(0,(false,()))))) (ag .i64 (ax v17 v2) 1)).2.2.2.1,((af v16 (0,(0,(0,(0,(false,()))))) (ag .i64 (ax v17 v2) 1)).2.2.2.2.1,())))))) fun y0=>
    bif y0.1 then
     bif(dX v15 v2)then
      bif(aZ (az v8 [(aI v15 v2)]) 1)then
       rec v0 v1 (aG .i64 v2 1) v3 v4 v5 v6 v7 (az v8 [(aI v15 v2)]) v9 v10 v11 v12 v13 v14 v15 v16 v17 v18 v19
      else
      none
     else
     none
    else
    bif(aH (af v16 (0,(0,(0,(0,(false,()))))) (ag .i64 (ax v17 v2) 1)).1 13)then
     bif(fD (ag .i64 (af v16 (0,(0,(0,(0,(false,()))))) (ag .i64 (ax v17 v2) 1)).2.2.1 (af v16 (0,(0,(0,(0,(false,()))))) (ag .i64 (ax v17 v2) 1)).2.1) 2)then
      bif(aZ (az v8 (ak [])) 1)then
       rec v0 v1 (af v16 (0,(0,(0,(0,(false,()))))) (ag .i64 (ax v17 v2) 1)).2.2.1 v3 v4 v5 v6 v7 (az v8 (ak [])) v9 v10 v11 v12 v13 v14 v15 v16 v17 v18 v19
      else
      none
     else
     bif(dX v15 (aG .i64 (af v16 (0,(0,(0,(0,(false,()))))) (ag .i64 (ax v17 v2) 1)).2.1 1))then
      bif(aH (aI v15 (aG .i64 (af v16 (0,(0,(0,(0,(false,()))))) (ag .i64 (ax v17 v2) 1)).2.1 1)) 36)then
       bif(aH (aI v15 (aG .i64 (af v16 (0,(0,(0,(0,(false,()))))) (ag .i64 (ax v17 v2) 1)).2.1 1)) 36)then
        bif(aZ (az v8 (ak (ofBytes [(aI v15 (aG .i64 (af v16 (0,(0,(0,(0,(false,()))))) (ag .i64 (ax v17 v2) 1)).2.1 1))]))) 1)then
         rec v0 v1 (af v16 (0,(0,(0,(0,(false,()))))) (ag .i64 (ax v17 v2) 1)).2.2.1 v3 v4 v5 v6 v7 (az v8 (ak (ofBytes [(aI v15 (aG .i64 (af v16 (0,(0,(0,(0,(false,()))))) (ag .i64 (ax v17 v2) 1)).2.1 1))]))) v9 v10 v11 v12 v13 v14 v15 v16 v17 v18 v19
        else
        none
       else
       bif(aH (aI v15 (aG .i64 (af v16 (0,(0,(0,(0,(false,()))))) (ag .i64 (ax v17 v2) 1)).2.1 1)) 10)then
        bif(aZ (az v8 (ak [])) 1)then
         rec v0 v1 (af v16 (0,(0,(0,(0,(false,()))))) (ag .i64 (ax v17 v2) 1)).2.2.1 v3 v4 v5 v6 v7 (az v8 (ak [])) v9 v10 v11 v12 v13 v14 v15 v16 v17 v18 v19
        else
        none
       else
       bif(bu (ah v15) (af v16 (0,(0,(0,(0,(false,()))))) (ag .i64 (ax v17 v2) 1)).2.1 (af v16 (0,(0,(0,(0,(false,()))))) (ag .i64 (ax v17 v2) 1)).2.2.1)then
        bif(aZ (az v8 (ak (sub v15 (af v16 (0,(0,(0,(0,(false,()))))) (ag .i64 (ax v17 v2) 1)).2.1 (af v16 (0,(0,(0,(0,(false,()))))) (ag .i64 (ax v17 v2) 1)).2.2.1))) 1)then
         rec v0 v1 (af v16 (0,(0,(0,(0,(false,()))))) (ag .i64 (ax v17 v2) 1)).2.2.1 v3 v4 v5 v6 v7 (az v8 (ak (sub v15 (af v16 (0,(0,(0,(0,(false,()))))) (ag .i64 (ax v17 v2) 1)).2.1 (af v16 (0,(0,(0,(0,(false,()))))) (ag .i64 (ax v17 v2) 1)).2.2.1))) v9 v10 v11 v12 v13 v14 v15 v16 v17 v18 v19
        else
        none
       else
       none
      else
      bif(aH (aI v15 (aG .i64 (af v16 (0,(0,(0,(0,(false,()))))) (ag .i64 (ax v17 v2) 1)).2.1 1)) 96)then
       bif(aH (aI v15 (aG .i64 (af v16 (0,(0,(0,(0,(false,()))))) (ag .i64 (ax v17 v2) 1)).2.1 1)) 96)then
        bif(aZ (az v8 (ak (ofBytes [(aI v15 (aG .i64 (af v16 (0,(0,(0,(0,(false,()))))) (ag .i64 (ax v17 v2) 1)).2.1 1))]))) 1)then
         rec v0 v1 (af v16 (0,(0,(0,(0,(false,()))))) (ag .i64 (ax v17 v2) 1)).2.2.1 v3 v4 v5 v6 v7 (az v8 (ak (ofBytes [(aI v15 (aG .i64 (af v16 (0,(0,(0,(0,(false,()))))) (ag .i64 (ax v17 v2) 1)).2.1 1))]))) v9 v10 v11 v12 v13 v14 v15 v16 v17 v18 v19
        else
        none
       else
       bif(aH (aI v15 (aG .i64 (af v16 (0,(0,(0,(0,(false,()))))) (ag .i64 (ax v17 v2) 1)).2.1 1)) 10)then
        bif(aZ (az v8 (ak [])) 1)then
         rec v0 v1 (af v16 (0,(0,(0,(0,(false,()))))) (ag .i64 (ax v17 v2) 1)).2.2.1 v3 v4 v5 v6 v7 (az v8 (ak [])) v9 v10 v11 v12 v13 v14 v15 v16 v17 v18 v19
        else
        none
       else
       bif(bu (ah v15) (af v16 (0,(0,(0,(0,(false,()))))) (ag .i64 (ax v17 v2) 1)).2.1 (af v16 (0,(0,(0,(0,(false,()))))) (ag .i64 (ax v17 v2) 1)).2.2.1)then
        bif(aZ (az v8 (ak (sub v15 (af v16 (0,(0,(0,(0,(false,()))))) (ag .i64 (ax v17 v2) 1)).2.1 (af v16 (0,(0,(0,(0,(false,()))))) (ag .i64 (ax v17 v2) 1)).2.2.1))) 1)then
         rec v0 v1 (af v16 (0,(0,(0,(0,(false,()))))) (ag .i64 (ax v17 v2) 1)).2.2.1 v3 v4 v5 v6 v7 (az v8 (ak (sub v15 (af v16 (0,(0,(0,(0,(false,()))))) (ag .i64 (ax v17 v2) 1)).2.1 (af v16 (0,(0,(0,(0,(false,()))))) (ag .i64 (ax v17 v2) 1)).2.2.1))) v9 v10 v11 v12 v13 v14 v15 v16 v17 v18 v19
        else
        none
       else
       none
      else
      bif(aH (aI v15 (aG .i64 (af v16 (0,(0,(0,(0,(false,()))))) (ag .i64 (ax v17 v2) 1)).2.1 1)) 34)then
       bif(aH (aI v15 (aG .i64 (af v16 (0,(0,(0,(0,(false,()))))) (ag .i64 (ax v17 v2) 1)).2.1 1)) 34)then
        bif(aZ (az v8 (ak (ofBytes [(aI v15 (aG .i64 (af v16 (0,(0,(0,(0,(false,()))))) (ag .i64 (ax v17 v2) 1)).2.1 1))]))) 1)then
         rec v0 v1 (af v16 (0,(0,(0,(0,(false,()))))) (ag .i64 (ax v17 v2) 1)).2.2.1 v3 v4 v5 v6 v7 (az v8 (ak (ofBytes [(aI v15 (aG .i64 (af v16 (0,(0,(0,(0,(false,()))))) (ag .i64 (ax v17 v2) 1)).2.1 1))]))) v9 v10 v11 v12 v13 v14 v15 v16 v17 v18 v19
        else
        none
       else
       bif(aH (aI v15 (aG .i64 (af v16 (0,(0,(0,(0,(false,()))))) (ag .i64 (ax v17 v2) 1)).2.1 1)) 10)then
        bif(aZ (az v8 (ak [])) 1)then
         rec v0 v1 (af v16 (0,(0,(0,(0,(false,()))))) (ag .i64 (ax v17 v2) 1)).2.2.1 v3 v4 v5 v6 v7 (az v8 (ak [])) v9 v10 v11 v12 v13 v14 v15 v16 v17 v18 v19
        else
        none
       else
       bif(bu (ah v15) (af v16 (0,(0,(0,(0,(false,()))))) (ag .i64 (ax v17 v2) 1)).2.1 (af v16 (0,(0,(0,(0,(false,()))))) (ag .i64 (ax v17 v2) 1)).2.2.1)then
        bif(aZ (az v8 (ak (sub v15 (af v16 (0,(0,(0,(0,(false,()))))) (ag .i64 (ax v17 v2) 1)).2.1 (af v16 (0,(0,(0,(0,(false,()))))) (ag .i64 (ax v17 v2) 1)).2.2.1))) 1)then
         rec v0 v1 (af v16 (0,(0,(0,(0,(false,()))))) (ag .i64 (ax v17 v2) 1)).2.2.1 v3 v4 v5 v6 v7 (az v8 (ak (sub v15 (af v16 (0,(0,(0,(0,(false,()))))) (ag .i64 (ax v17 v2) 1)).2.1 (af v16 (0,(0,(0,(0,(false,()))))) (ag .i64 (ax v17 v2) 1)).2.2.1))) v9 v10 v11 v12 v13 v14 v15 v16 v17 v18 v19
        else
        none
       else
       none
      else
      bif(aH (aI v15 (aG .i64 (af v16 (0,(0,(0,(0,(false,()))))) (ag .i64 (ax v17 v2) 1)).2.1 1)) 92)then
       bif(aZ (az v8 (ak (ofBytes [(aI v15 (aG .i64 (af v16 (0,(0,(0,(0,(false,()))))) (ag .i64 (ax v17 v2) 1)).2.1 1))]))) 1)then
        rec v0 v1 (af v16 (0,(0,(0,(0,(false,()))))) (ag .i64 (ax v17 v2) 1)).2.2.1 v3 v4 v5 v6 v7 (az v8 (ak (ofBytes [(aI v15 (aG .i64 (af v16 (0,(0,(0,(0,(false,()))))) (ag .i64 (ax v17 v2) 1)).2.1 1))]))) v9 v10 v11 v12 v13 v14 v15 v16 v17 v18 v19
       else
       none
      else
      bif(aH (aI v15 (aG .i64 (af v16 (0,(0,(0,(0,(false,()))))) (ag .i64 (ax v17 v2) 1)).2.1 1)) 10)then
       bif(aZ (az v8 (ak [])) 1)then
        rec v0 v1 (af v16 (0,(0,(0,(0,(false,()))))) (ag .i64 (ax v17 v2) 1)).2.2.1 v3 v4 v5 v6 v7 (az v8 (ak [])) v9 v10 v11 v12 v13 v14 v15 v16 v17 v18 v19
       else
       none
      else
      bif(bu (ah v15) (af v16 (0,(0,(0,(0,(false,()))))) (ag .i64 (ax v17 v2) 1)).2.1 (af v16 (0,(0,(0,(0,(false,()))))) (ag .i64 (ax v17 v2) 1)).2.2.1)then
       bif(aZ (az v8 (ak (sub v15 (af v16 (0,(0,(0,(0,(false,()))))) (ag .i64 (ax v17 v2) 1)).2.1 (af v16 (0,(0,(0,(0,(false,()))))) (ag .i64 (ax v17 v2) 1)).2.2.1))) 1)then
        rec v0 v1 (af v16 (0,(0,(0,(0,(false,()))))) (ag .i64 (ax v17 v2) 1)).2.2.1 v3 v4 v5 v6 v7 (az v8 (ak (sub v15 (af v16 (0,(0,(0,(0,(false,()))))) (ag .i64 (ax v17 v2) 1)).2.1 (af v16 (0,(0,(0,(0,(false,()))))) (ag .i64 (ax v17 v2) 1)).2.2.1))) v9 v10 v11 v12 v13 v14 v15 v16 v17 v18 v19
       else
       none
      else
      none
     else
     none
    else
    bif(fD 0 (ah v8))then
     bif(aZ (az v19 (ak (ofBytes v8))) 1)then
      bif(bu (ah v15) (af v16 (0,(0,(0,(0,(false,()))))) (ag .i64 (ax v17 v2) 1)).2.1 (af v16 (0,(0,(0,(0,(false,()))))) (ag .i64 (ax v17 v2) 1)).2.2.1)then
       bif(aZ (az (az v19 (ak (ofBytes v8))) (ak (sub v15 (af v16 (0,(0,(0,(0,(false,()))))) (ag .i64 (ax v17 v2) 1)).2.1 (af v16 (0,(0,(0,(0,(false,()))))) (ag .i64 (ax v17 v2) 1)).2.2.1))) 1)then
        rec v0 true (af v16 (0,(0,(0,(0,(false,()))))) (ag .i64 (ax v17 v2) 1)).2.2.1 v3 v4 v5 v6 v7 [] v9 v10 v11 v12 v13 v14 v15 v16 v17 v18 (az (az v19 (ak (ofBytes v8))) (ak (sub v15 (af v16 (0,(0,(0,(0,(false,()))))) (ag .i64 (ax v17 v2) 1)).2.1 (af v16 (0,(0,(0,(0,(false,()))))) (ag .i64 (ax v17 v2) 1)).2.2.1)))
       else
       none
      else
      none
     else
     none
    else
    bif(bu (ah v15) (af v16 (0,(0,(0,(0,(false,()))))) (ag .i64 (ax v17 v2) 1)).2.1 (af v16 (0,(0,(0,(0,(false,()))))) (ag .i64 (ax v17 v2) 1)).2.2.1)then
     bif(aZ (az v19 (ak (sub v15 (af v16 (0,(0,(0,(0,(false,()))))) (ag .i64 (ax v17 v2) 1)).2.1 (af v16 (0,(0,(0,(0,(false,()))))) (ag .i64 (ax v17 v2) 1)).2.2.1))) 1)then
      rec v0 true (af v16 (0,(0,(0,(0,(false,()))))) (ag .i64 (ax v17 v2) 1)).2.2.1 v3 v4 v5 v6 v7 [] v9 v10 v11 v12 v13 v14 v15 v16 v17 v18 (az v19 (ak (sub v15 (af v16 (0,(0,(0,(0,(false,()))))) (ag .i64 (ax v17 v2) 1)).2.1 (af v16 (0,(0,(0,(0,(false,()))))) (ag .i64 (ax v17 v2) 1)).2.2.1)))
     else
     none
    else
    none
  else
  none
 else
 kE v1 v3 v4 v5 v6 v7 v8 v9 v10 v11 v12 v13 v14 v15 v16 v17 v18 v19
def eP:Nat->Int->Bool->Int->Int->Bool->Bool->(Int×Int×Int×Int×Bool×Unit)->(List UInt8)->(List (Int))->Int->Int->Int->Int->Bool->(List (Int))->(List UInt8)->(List (Int×Int×Int×Int×Bool×Unit))->(List (Int×Int))->(List UInt8)->(List (Int))->Option (wZ.den⊕xw.den)
 |0,_,_,_,_,_,_,_,_,_,_,_,_,_,_,_,_,_,_,_,_=>none
 |n+1,v0,v1,v2,v3,v4,v5,v6,v7,v8,v9,v10,v11,v12,v13,v14,v15,v16,v17,v18,v19=>qX (eP n) (fun e0 e1 e2 e3 e4 e5 e6 e7 e8 e9 e10 e11 e12 e13 e14 e15 e16 e17=>some (.inl ((e0,()),((e1,e2,e3,e4,()),(e5,()),(),(),()),(e6,(e7,e8,e9,e10,e11,()),e12,(),(),(e13,e14,()),e15,(),(e16,()),e17,(),())))) (fun r0 r1 r2 r3 r4 r5=>some (.inr ((),((r0,()),(),(),()),((r1,r2,()),r3,(),(r4,()),r5,(),())))) v0 v1 v2 v3 v4 v5 v6 v7 v8 v9 v10 v11 v12 v13 v14 v15 v16 v17 v18 v19
noncomputable def EI:bG:=gQ Jg uS wZ xw (.exit 0) (fun v=>eP aO v.1.1 v.1.2.1 v.1.2.2.1 v.2.1.1.1 v.2.1.1.2.1 v.2.1.1.2.2.1 v.2.1.1.2.2.2.1 v.2.1.2.1.1 v.2.2.1 v.2.2.2.1.1 v.2.2.2.1.2.1 v.2.2.2.1.2.2.1 v.2.2.2.1.2.2.2.1 v.2.2.2.1.2.2.2.2.1 v.2.2.2.2.1 v.2.2.2.2.2.2.2.1.1 v.2.2.2.2.2.2.2.1.2.1 v.2.2.2.2.2.2.2.2.1 v.2.2.2.2.2.2.2.2.2.2.1.1 v.2.2.2.2.2.2.2.2.2.2.2.1) 12
def vW:SQ:=⟨us [.u,.ptr 2000001 0,.ptr 3000002 0,.ptr 3000003 0,.fn 220 [(3000003,0),(3000002,0)],.v (.int .i64)] 106,[us [.u,.u,.v .str,.ptr 1000003 0] 9,[.yld 1700008],[]],[.arr 3500003 (.int .u8),.box 3000003 111 [.slc 3500003],.box 3000002 269 [.yld 1700008],.box 2000011 268 [.v .str,.v (.list (.pair (.int .i64) (.pair (.int .i64) (.pair (.int .i64) (.pair (.int .i64) (.pair .bool .unit)))))),.mpv 2000009],.mp 2000009 .i64 .i64,.box 2000001 218 [.ptr 2000011 0],.lp 1700008 270 (us [.u,.u,.v .str,.ptr 1000003 0] 9) [8] 4 0 none,.arr 1500003 (.int .u8),.box 1000003 132 [.slf 1000003,.slc 1500003]]⟩
def yc:SQ:=⟨us [.u,.u,.u,.u,.fn 220 [(3000003,0),(3000002,0)]] 107,[us [.u,.u,.v .str,.ptr 1000003 0] 9,[.yld 1700008],[]],[.arr 3500003 (.int .u8),.box 3000003 111 [.slc 3500003],.box 3000002 269 [.yld 1700008],.box 2000011 268 [.v .str,.v (.list (.pair (.int .i64) (.pair (.int .i64) (.pair (.int .i64) (.pair (.int .i64) (.pair .bool .unit)))))),.mpv 2000009],.mp 2000009 .i64 .i64,.box 2000001 218 [.ptr 2000011 0],.lp 1700008 270 (us [.u,.u,.v .str,.ptr 1000003 0] 9) [8] 4 0 none,.arr 1500003 (.int .u8),.box 1000003 132 [.slf 1000003,.slc 1500003]]⟩
def wM:SQ:=⟨us [] 112,[us [.u,.u,.v .str,.ptr 1000003 0] 9,[.yld 1700008],[]],[.box 2000011 268 [.v .str,.v (.list (.pair (.int .i64) (.pair (.int .i64) (.pair (.int .i64) (.pair (.int .i64) (.pair .bool .unit)))))),.mpv 2000009],.mp 2000009 .i64 .i64,.box 2000001 218 [.ptr 2000011 0],.lp 1700008 270 (us [.u,.u,.v .str,.ptr 1000003 0] 9) [8] 4 0 none,.arr 1500003 (.int .u8),.box 1000003 132 [.slf 1000003,.slc 1500003]]⟩
def ry {γ:Type} (rec:Int->(List UInt8)->(List (Int))->(List UInt8)->(List (Int×Int×Int×Int×Bool×Unit))->(List (Int×Int))->(List UInt8)->(List (Int))->Option γ) (kE:(List UInt8)->(List (Int))->(List UInt8)->(List (Int×Int×Int×Int×Bool×Unit))->(List (Int×Int))->(List UInt8)->(List (Int))->Option γ) (kR:(List UInt8)->(List UInt8)->(List (Int×Int×Int×Int×Bool×Unit))->(List (Int×Int))->(List UInt8)->(List (Int))->Option γ) (v0:Int) (v1:List UInt8) (v2:List (Int)) (v3:List UInt8) (v4:List (Int×Int×Int×Int×Bool×Unit)) (v5:List (Int×Int)) (v6:List UInt8) (v7:List (Int)):Option γ:=
 bif(fD v0 (ah v3))then
  bif(aH (ax v5 v0) 0)then
   bif(dX v3 v0)then
    bif(cO v3 v3)then
     bif(aH v0 v0)then
      bif(aZ (az v2 [(aI v3 v0)]) 1)then
       bif(cO v3 v3)then
        bif(aH v0 v0)then
         bif(dX v3 v0)then
          bif(aH (aI v3 v0) (aI v3 v0))then
           rec (aG .i64 v0 1) v1 (az v2 [(aI v3 v0)]) v3 v4 v5 v6 v7
          else
          none
         else
         none
        else
        none
       else
       none
      else
      none
     else
     none
    else
    none
   else
   none
  else
  bif(dX v4 (ag .i64 (ax v5 v0) 1))then
   ai (Ru ((af v4 (0,(0,(0,(0,(false,()))))) (ag .i64 (ax v5 v0) 1)).1,((af v4 (0,(0,(0,(0,(false,()))))) (ag .i64 (ax v5 v0) 1)).2.1,((af v4 (0,(0,(0,(0,(false,()))))) (ag .i64 (ax v5 v0) 1)).2.2.1,((af v4 (0,(0,(0,(0,(false,()))))) (ag .i64 (ax v5 v0) 1)).2.2.2.1,((af v4 (0,(0,(0,(0,(false,()))))) (ag .i64 (ax v5 v0) 1)).2.2.2.2.1,())))))) fun y0=>
    bif y0.1 then
     bif y0.1 then
      bif(bu (ah v3) (af v4 (0,(0,(0,(0,(false,()))))) (ag .i64 (ax v5 v0) 1)).2.1 (af v4 (0,(0,(0,(0,(false,()))))) (ag .i64 (ax v5 v0) 1)).2.2.1)then
       bif(aZ (az v2 (ak (sub v3 (af v4 (0,(0,(0,(0,(false,()))))) (ag .i64 (ax v5 v0) 1)).2.1 (af v4 (0,(0,(0,(0,(false,()))))) (ag .i64 (ax v5 v0) 1)).2.2.1))) 1)then
        rec (af v4 (0,(0,(0,(0,(false,()))))) (ag .i64 (ax v5 v0) 1)).2.2.1 v1 (az v2 (ak (sub v3 (af v4 (0,(0,(0,(0,(false,()))))) (ag .i64 (ax v5 v0) 1)).2.1 (af v4 (0,(0,(0,(0,(false,()))))) (ag .i64 (ax v5 v0) 1)).2.2.1))) v3 v4 v5 v6 v7
       else
       none
      else
      none
     else
     bif(aH (af v4 (0,(0,(0,(0,(false,()))))) (ag .i64 (ax v5 v0) 1)).1 13)then
      bif(aH (af v4 (0,(0,(0,(0,(false,()))))) (ag .i64 (ax v5 v0) 1)).1 13)then
       bif(aH (af v4 (0,(0,(0,(0,(false,()))))) (ag .i64 (ax v5 v0) 1)).1 4)then
        ai (pY ((af v4 (0,(0,(0,(0,(false,()))))) (ag .i64 (ax v5 v0) 1)).1,((af v4 (0,(0,(0,(0,(false,()))))) (ag .i64 (ax v5 v0) 1)).2.1,((af v4 (0,(0,(0,(0,(false,()))))) (ag .i64 (ax v5 v0) 1)).2.2.1,((af v4 (0,(0,(0,(0,(false,()))))) (ag .i64 (ax v5 v0) 1)).2.2.2.1,((af v4 (0,(0,(0,(0,(false,()))))) (ag .i64 (ax v5 v0) 1)).2.2.2.2.1,())))))) fun y1=>
         bif(bu (ah v3) y1.1 y1.2.1)then
          bif(cO (ofBytes v2) [])then
           bif(aZ (az v7 (ak (sub v3 y1.1 y1.2.1))) 1)then
            rec (af v4 (0,(0,(0,(0,(false,()))))) (ag .i64 (ax v5 v0) 1)).2.2.1 v1 [] v3 v4 v5 v6 (az v7 (ak (sub v3 y1.1 y1.2.1)))
           else
           none
          else
          bif(aZ (az v7 (ak (ofBytes v2))) 1)then
           bif(aZ (az (az v7 (ak (ofBytes v2))) (ak (sub v3 y1.1 y1.2.1))) 1)then
            rec (af v4 (0,(0,(0,(0,(false,()))))) (ag .i64 (ax v5 v0) 1)).2.2.1 v1 [] v3 v4 v5 v6 (az (az v7 (ak (ofBytes v2))) (ak (sub v3 y1.1 y1.2.1)))
           else
           none
          else
          none
         else
         none
       else
       bif(bu (ah v3) (aG .i64 (af v4 (0,(0,(0,(0,(false,()))))) (ag .i64 (ax v5 v0) 1)).2.1 1) (af v4 (0,(0,(0,(0,(false,()))))) (ag .i64 (ax v5 v0) 1)).2.2.1)then
        bif(!(cO (sub v3 (aG .i64 (af v4 (0,(0,(0,(0,(false,()))))) (ag .i64 (ax v5 v0) 1)).2.1 1) (af v4 (0,(0,(0,(0,(false,()))))) (ag .i64 (ax v5 v0) 1)).2.2.1) []))then
         bif(!(cO (sub v3 (aG .i64 (af v4 (0,(0,(0,(0,(false,()))))) (ag .i64 (ax v5 v0) 1)).2.1 1) (af v4 (0,(0,(0,(0,(false,()))))) (ag .i64 (ax v5 v0) 1)).2.2.1) [10]))then
          bif(cO (ofBytes v2) [])then
           bif(aZ (az v7 (ak (sub v3 (aG .i64 (af v4 (0,(0,(0,(0,(false,()))))) (ag .i64 (ax v5 v0) 1)).2.1 1) (af v4 (0,(0,(0,(0,(false,()))))) (ag .i64 (ax v5 v0) 1)).2.2.1))) 1)then
            rec (af v4 (0,(0,(0,(0,(false,()))))) (ag .i64 (ax v5 v0) 1)).2.2.1 v1 [] v3 v4 v5 v6 (az v7 (ak (sub v3 (aG .i64 (af v4 (0,(0,(0,(0,(false,()))))) (ag .i64 (ax v5 v0) 1)).2.1 1) (af v4 (0,(0,(0,(0,(false,()))))) (ag .i64 (ax v5 v0) 1)).2.2.1)))
           else
           none
          else
          bif(aZ (az v7 (ak (ofBytes v2))) 1)then
           bif(aZ (az (az v7 (ak (ofBytes v2))) (ak (sub v3 (aG .i64 (af v4 (0,(0,(0,(0,(false,()))))) (ag .i64 (ax v5 v0) 1)).2.1 1) (af v4 (0,(0,(0,(0,(false,()))))) (ag .i64 (ax v5 v0) 1)).2.2.1))) 1)then
            rec (af v4 (0,(0,(0,(0,(false,()))))) (ag .i64 (ax v5 v0) 1)).2.2.1 v1 [] v3 v4 v5 v6 (az (az v7 (ak (ofBytes v2))) (ak (sub v3 (aG .i64 (af v4 (0,(0,(0,(0,(false,()))))) (ag .i64 (ax v5 v0) 1)).2.1 1) (af v4 (0,(0,(0,(0,(false,()))))) (ag .i64 (ax v5 v0) 1)).2.2.1)))
           else
           none
          else
          none
         else
         rec (af v4 (0,(0,(0,(0,(false,()))))) (ag .i64 (ax v5 v0) 1)).2.2.1 v1 v2 v3 v4 v5 v6 v7
        else
        rec (af v4 (0,(0,(0,(0,(false,()))))) (ag .i64 (ax v5 v0) 1)).2.2.1 v1 v2 v3 v4 v5 v6 v7
       else
       none
      else
      bif(aH (af v4 (0,(0,(0,(0,(false,()))))) (ag .i64 (ax v5 v0) 1)).1 5)then
       bif(cO (ofBytes v2) [])then
        ai (pY ((af v4 (0,(0,(0,(0,(false,()))))) (ag .i64 (ax v5 v0) 1)).1,((af v4 (0,(0,(0,(0,(false,()))))) (ag .i64 (ax v5 v0) 1)).2.1,((af v4 (0,(0,(0,(0,(false,()))))) (ag .i64 (ax v5 v0) 1)).2.2.1,((af v4 (0,(0,(0,(0,(false,()))))) (ag .i64 (ax v5 v0) 1)).2.2.2.1,((af v4 (0,(0,(0,(0,(false,()))))) (ag .i64 (ax v5 v0) 1)).2.2.2.2.1,())))))) fun y1=>
         ai (eP aO y1.2.1 false y1.1 (af v4 (0,(0,(0,(0,(false,()))))) (ag .i64 (ax v5 v0) 1)).2.2.1 true true ((af v4 (0,(0,(0,(0,(false,()))))) (ag .i64 (ax v5 v0) 1)).1,((af v4 (0,(0,(0,(0,(false,()))))) (ag .i64 (ax v5 v0) 1)).2.1,((af v4 (0,(0,(0,(0,(false,()))))) (ag .i64 (ax v5 v0) 1)).2.2.1,((af v4 (0,(0,(0,(0,(false,()))))) (ag .i64 (ax v5 v0) 1)).2.2.2.1,((af v4 (0,(0,(0,(0,(false,()))))) (ag .i64 (ax v5 v0) 1)).2.2.2.2.1,()))))) v1 [] (af v4 (0,(0,(0,(0,(false,()))))) (ag .i64 (ax v5 v0) 1)).1 (af v4 (0,(0,(0,(0,(false,()))))) (ag .i64 (ax v5 v0) 1)).2.1 (af v4 (0,(0,(0,(0,(false,()))))) (ag .i64 (ax v5 v0) 1)).2.2.1 (af v4 (0,(0,(0,(0,(false,()))))) (ag .i64 (ax v5 v0) 1)).2.2.2.1 (af v4 (0,(0,(0,(0,(false,()))))) (ag .i64 (ax v5 v0) 1)).2.2.2.2.1 v2 v3 v4 v5 v6 v7) fun y2=>
          bF y2 (fun a3=>
           bif(aH (ah a3.2.2.1) 0)then
            bif a3.1.1 then
             bif a3.2.1.1.2.2.1 then
              rec a3.2.1.1.1 a3.2.1.2.1.1 [] a3.2.2.2.2.2.2.2.1.1 a3.2.2.2.2.2.2.2.1.2.1 a3.2.2.2.2.2.2.2.2.1 a3.2.2.2.2.2.2.2.2.2.2.1.1 a3.2.2.2.2.2.2.2.2.2.2.2.1
             else
             kR a3.2.1.2.1.1 a3.2.2.2.2.2.2.2.1.1 a3.2.2.2.2.2.2.2.1.2.1 a3.2.2.2.2.2.2.2.2.1 a3.2.2.2.2.2.2.2.2.2.2.1.1 a3.2.2.2.2.2.2.2.2.2.2.2.1
            else
            bif(aZ (az a3.2.2.2.2.2.2.2.2.2.2.2.1 (ak (ofBytes a3.2.2.1))) 1)then
             bif a3.2.1.1.2.2.1 then
              rec a3.2.1.1.1 a3.2.1.2.1.1 [] a3.2.2.2.2.2.2.2.1.1 a3.2.2.2.2.2.2.2.1.2.1 a3.2.2.2.2.2.2.2.2.1 a3.2.2.2.2.2.2.2.2.2.2.1.1 (az a3.2.2.2.2.2.2.2.2.2.2.2.1 (ak (ofBytes a3.2.2.1)))
             else
             kR a3.2.1.2.1.1 a3.2.2.2.2.2.2.2.1.1 a3.2.2.2.2.2.2.2.1.2.1 a3.2.2.2.2.2.2.2.2.1 a3.2.2.2.2.2.2.2.2.2.2.1.1 (az a3.2.2.2.2.2.2.2.2.2.2.2.1 (ak (ofBytes a3.2.2.1)))
            else
            none
           else
           bif(aZ (az a3.2.2.2.2.2.2.2.2.2.2.2.1 (ak (ofBytes a3.2.2.1))) 1)then
            bif a3.2.1.1.2.2.1 then
             rec a3.2.1.1.1 a3.2.1.2.1.1 [] a3.2.2.2.2.2.2.2.1.1 a3.2.2.2.2.2.2.2.1.2.1 a3.2.2.2.2.2.2.2.2.1 a3.2.2.2.2.2.2.2.2.2.2.1.1 (az a3.2.2.2.2.2.2.2.2.2.2.2.1 (ak (ofBytes a3.2.2.1)))
            else
            kR a3.2.1.2.1.1 a3.2.2.2.2.2.2.2.1.1 a3.2.2.2.2.2.2.2.1.2.1 a3.2.2.2.2.2.2.2.2.1 a3.2.2.2.2.2.2.2.2.2.2.1.1 (az a3.2.2.2.2.2.2.2.2.2.2.2.1 (ak (ofBytes a3.2.2.1)))
           else
           none) (fun b3=>
           none)
       else
       bif(aZ (az v7 (ak (ofBytes v2))) 1)then
        ai (pY ((af v4 (0,(0,(0,(0,(false,()))))) (ag .i64 (ax v5 v0) 1)).1,((af v4 (0,(0,(0,(0,(false,()))))) (ag .i64 (ax v5 v0) 1)).2.1,((af v4 (0,(0,(0,(0,(false,()))))) (ag .i64 (ax v5 v0) 1)).2.2.1,((af v4 (0,(0,(0,(0,(false,()))))) (ag .i64 (ax v5 v0) 1)).2.2.2.1,((af v4 (0,(0,(0,(0,(false,()))))) (ag .i64 (ax v5 v0) 1)).2.2.2.2.1,())))))) fun y1=>
         ai (eP aO y1.2.1 false y1.1 (af v4 (0,(0,(0,(0,(false,()))))) (ag .i64 (ax v5 v0) 1)).2.2.1 true true ((af v4 (0,(0,(0,(0,(false,()))))) (ag .i64 (ax v5 v0) 1)).1,((af v4 (0,(0,(0,(0,(false,()))))) (ag .i64 (ax v5 v0) 1)).2.1,((af v4 (0,(0,(0,(0,(false,()))))) (ag .i64 (ax v5 v0) 1)).2.2.1,((af v4 (0,(0,(0,(0,(false,()))))) (ag .i64 (ax v5 v0) 1)).2.2.2.1,((af v4 (0,(0,(0,(0,(false,()))))) (ag .i64 (ax v5 v0) 1)).2.2.2.2.1,()))))) v1 [] (af v4 (0,(0,(0,(0,(false,()))))) (ag .i64 (ax v5 v0) 1)).1 (af v4 (0,(0,(0,(0,(false,()))))) (ag .i64 (ax v5 v0) 1)).2.1 (af v4 (0,(0,(0,(0,(false,()))))) (ag .i64 (ax v5 v0) 1)).2.2.1 (af v4 (0,(0,(0,(0,(false,()))))) (ag .i64 (ax v5 v0) 1)).2.2.2.1 (af v4 (0,(0,(0,(0,(false,()))))) (ag .i64 (ax v5 v0) 1)).2.2.2.2.1 v2 v3 v4 v5 v6 (az v7 (ak (ofBytes v2)))) fun y2=>
          bF y2 (fun a3=>
           bif(aH (ah a3.2.2.1) 0)then
            bif a3.1.1 then
             bif a3.2.1.1.2.2.1 then
              rec a3.2.1.1.1 a3.2.1.2.1.1 [] a3.2.2.2.2.2.2.2.1.1 a3.2.2.2.2.2.2.2.1.2.1 a3.2.2.2.2.2.2.2.2.1 a3.2.2.2.2.2.2.2.2.2.2.1.1 a3.2.2.2.2.2.2.2.2.2.2.2.1
             else
             kR a3.2.1.2.1.1 a3.2.2.2.2.2.2.2.1.1 a3.2.2.2.2.2.2.2.1.2.1 a3.2.2.2.2.2.2.2.2.1 a3.2.2.2.2.2.2.2.2.2.2.1.1 a3.2.2.2.2.2.2.2.2.2.2.2.1
            else
            bif(aZ (az a3.2.2.2.2.2.2.2.2.2.2.2.1 (ak (ofBytes a3.2.2.1))) 1)then
             bif a3.2.1.1.2.2.1 then
              rec a3.2.1.1.1 a3.2.1.2.1.1 [] a3.2.2.2.2.2.2.2.1.1 a3.2.2.2.2.2.2.2.1.2.1 a3.2.2.2.2.2.2.2.2.1 a3.2.2.2.2.2.2.2.2.2.2.1.1 (az a3.2.2.2.2.2.2.2.2.2.2.2.1 (ak (ofBytes a3.2.2.1)))
             else
             kR a3.2.1.2.1.1 a3.2.2.2.2.2.2.2.1.1 a3.2.2.2.2.2.2.2.1.2.1 a3.2.2.2.2.2.2.2.2.1 a3.2.2.2.2.2.2.2.2.2.2.1.1 (az a3.2.2.2.2.2.2.2.2.2.2.2.1 (ak (ofBytes a3.2.2.1)))
            else
            none
           else
           bif(aZ (az a3.2.2.2.2.2.2.2.2.2.2.2.1 (ak (ofBytes a3.2.2.1))) 1)then
            bif a3.2.1.1.2.2.1 then
             rec a3.2.1.1.1 a3.2.1.2.1.1 [] a3.2.2.2.2.2.2.2.1.1 a3.2.2.2.2.2.2.2.1.2.1 a3.2.2.2.2.2.2.2.2.1 a3.2.2.2.2.2.2.2.2.2.2.1.1 (az a3.2.2.2.2.2.2.2.2.2.2.2.1 (ak (ofBytes a3.2.2.1)))
            else
            kR a3.2.1.2.1.1 a3.2.2.2.2.2.2.2.1.1 a3.2.2.2.2.2.2.2.1.2.1 a3.2.2.2.2.2.2.2.2.1 a3.2.2.2.2.2.2.2.2.2.2.1.1 (az a3.2.2.2.2.2.2.2.2.2.2.2.1 (ak (ofBytes a3.2.2.1)))
           else
           none) (fun b3=>
           none)
       else
       none
      else
      bif(cO (ofBytes v2) [])then
       bif(bu (ah v3) (af v4 (0,(0,(0,(0,(false,()))))) (ag .i64 (ax v5 v0) 1)).2.1 (af v4 (0,(0,(0,(0,(false,()))))) (ag .i64 (ax v5 v0) 1)).2.2.1)then
        bif(aZ (az v7 (ak (sub v3 (af v4 (0,(0,(0,(0,(false,()))))) (ag .i64 (ax v5 v0) 1)).2.1 (af v4 (0,(0,(0,(0,(false,()))))) (ag .i64 (ax v5 v0) 1)).2.2.1))) 1)then
         rec (af v4 (0,(0,(0,(0,(false,()))))) (ag .i64 (ax v5 v0) 1)).2.2.1 v1 [] v3 v4 v5 v6 (az v7 (ak (sub v3 (af v4 (0,(0,(0,(0,(false,()))))) (ag .i64 (ax v5 v0) 1)).2.1 (af v4 (0,(0,(0,(0,(false,()))))) (ag .i64 (ax v5 v0) 1)).2.2.1)))
        else
        none
       else
       none
      else
      bif(aZ (az v7 (ak (ofBytes v2))) 1)then
       bif(bu (ah v3) (af v4 (0,(0,(0,(0,(false,()))))) (ag .i64 (ax v5 v0) 1)).2.1 (af v4 (0,(0,(0,(0,(false,()))))) (ag .i64 (ax v5 v0) 1)).2.2.1)then
        bif(aZ (az (az v7 (ak (ofBytes v2))) (ak (sub v3 (af v4 (0,(0,(0,(0,(false,()))))) (ag .i64 (ax v5 v0) 1)).2.1 (af v4 (0,(0,(0,(0,(false,()))))) (ag .i64 (ax v5 v0) 1)).2.2.1))) 1)then
         rec (af v4 (0,(0,(0,(0,(false,()))))) (ag .i64 (ax v5 v0) 1)).2.2.1 v1 [] v3 v4 v5 v6 (az (az v7 (ak (ofBytes v2))) (ak (sub v3 (af v4 (0,(0,(0,(0,(false,()))))) (ag .i64 (ax v5 v0) 1)).2.1 (af v4 (0,(0,(0,(0,(false,()))))) (ag .i64 (ax v5 v0) 1)).2.2.1)))
        else
        none
       else
       none
      else
      none
     else
     bif(aH (af v4 (0,(0,(0,(0,(false,()))))) (ag .i64 (ax v5 v0) 1)).1 4)then
      bif(aH (af v4 (0,(0,(0,(0,(false,()))))) (ag .i64 (ax v5 v0) 1)).1 4)then
       ai (pY ((af v4 (0,(0,(0,(0,(false,()))))) (ag .i64 (ax v5 v0) 1)).1,((af v4 (0,(0,(0,(0,(false,()))))) (ag .i64 (ax v5 v0) 1)).2.1,((af v4 (0,(0,(0,(0,(false,()))))) (ag .i64 (ax v5 v0) 1)).2.2.1,((af v4 (0,(0,(0,(0,(false,()))))) (ag .i64 (ax v5 v0) 1)).2.2.2.1,((af v4 (0,(0,(0,(0,(false,()))))) (ag .i64 (ax v5 v0) 1)).2.2.2.2.1,())))))) fun y1=>
        bif(bu (ah v3) y1.1 y1.2.1)then
         bif(cO (ofBytes v2) [])then
          bif(aZ (az v7 (ak (sub v3 y1.1 y1.2.1))) 1)then
           rec (af v4 (0,(0,(0,(0,(false,()))))) (ag .i64 (ax v5 v0) 1)).2.2.1 v1 [] v3 v4 v5 v6 (az v7 (ak (sub v3 y1.1 y1.2.1)))
          else
          none
         else
         bif(aZ (az v7 (ak (ofBytes v2))) 1)then
          bif(aZ (az (az v7 (ak (ofBytes v2))) (ak (sub v3 y1.1 y1.2.1))) 1)then
           rec (af v4 (0,(0,(0,(0,(false,()))))) (ag .i64 (ax v5 v0) 1)).2.2.1 v1 [] v3 v4 v5 v6 (az (az v7 (ak (ofBytes v2))) (ak (sub v3 y1.1 y1.2.1)))
          else
          none
         else
         none
        else
        none
      else
      bif(bu (ah v3) (aG .i64 (af v4 (0,(0,(0,(0,(false,()))))) (ag .i64 (ax v5 v0) 1)).2.1 1) (af v4 (0,(0,(0,(0,(false,()))))) (ag .i64 (ax v5 v0) 1)).2.2.1)then
       bif(!(cO (sub v3 (aG .i64 (af v4 (0,(0,(0,(0,(false,()))))) (ag .i64 (ax v5 v0) 1)).2.1 1) (af v4 (0,(0,(0,(0,(false,()))))) (ag .i64 (ax v5 v0) 1)).2.2.1) []))then
        bif(!(cO (sub v3 (aG .i64 (af v4 (0,(0,(0,(0,(false,()))))) (ag .i64 (ax v5 v0) 1)).2.1 1) (af v4 (0,(0,(0,(0,(false,()))))) (ag .i64 (ax v5 v0) 1)).2.2.1) [10]))then
         bif(cO (ofBytes v2) [])then
          bif(aZ (az v7 (ak (sub v3 (aG .i64 (af v4 (0,(0,(0,(0,(false,()))))) (ag .i64 (ax v5 v0) 1)).2.1 1) (af v4 (0,(0,(0,(0,(false,()))))) (ag .i64 (ax v5 v0) 1)).2.2.1))) 1)then
           rec (af v4 (0,(0,(0,(0,(false,()))))) (ag .i64 (ax v5 v0) 1)).2.2.1 v1 [] v3 v4 v5 v6 (az v7 (ak (sub v3 (aG .i64 (af v4 (0,(0,(0,(0,(false,()))))) (ag .i64 (ax v5 v0) 1)).2.1 1) (af v4 (0,(0,(0,(0,(false,()))))) (ag .i64 (ax v5 v0) 1)).2.2.1)))
          else
          none
         else
         bif(aZ (az v7 (ak (ofBytes v2))) 1)then
          bif(aZ (az (az v7 (ak (ofBytes v2))) (ak (sub v3 (aG .i64 (af v4 (0,(0,(0,(0,(false,()))))) (ag .i64 (ax v5 v0) 1)).2.1 1) (af v4 (0,(0,(0,(0,(false,()))))) (ag .i64 (ax v5 v0) 1)).2.2.1))) 1)then
           rec (af v4 (0,(0,(0,(0,(false,()))))) (ag .i64 (ax v5 v0) 1)).2.2.1 v1 [] v3 v4 v5 v6 (az (az v7 (ak (ofBytes v2))) (ak (sub v3 (aG .i64 (af v4 (0,(0,(0,(0,(false,()))))) (ag .i64 (ax v5 v0) 1)).2.1 1) (af v4 (0,(0,(0,(0,(false,()))))) (ag .i64 (ax v5 v0) 1)).2.2.1)))
          else
          none
         else
         none
        else
        rec (af v4 (0,(0,(0,(0,(false,()))))) (ag .i64 (ax v5 v0) 1)).2.2.1 v1 v2 v3 v4 v5 v6 v7
       else
       rec (af v4 (0,(0,(0,(0,(false,()))))) (ag .i64 (ax v5 v0) 1)).2.2.1 v1 v2 v3 v4 v5 v6 v7
      else
      none
     else
     bif(aH (af v4 (0,(0,(0,(0,(false,()))))) (ag .i64 (ax v5 v0) 1)).1 5)then
      bif(cO (ofBytes v2) [])then
       ai (pY ((af v4 (0,(0,(0,(0,(false,()))))) (ag .i64 (ax v5 v0) 1)).1,((af v4 (0,(0,(0,(0,(false,()))))) (ag .i64 (ax v5 v0) 1)).2.1,((af v4 (0,(0,(0,(0,(false,()))))) (ag .i64 (ax v5 v0) 1)).2.2.1,((af v4 (0,(0,(0,(0,(false,()))))) (ag .i64 (ax v5 v0) 1)).2.2.2.1,((af v4 (0,(0,(0,(0,(false,()))))) (ag .i64 (ax v5 v0) 1)).2.2.2.2.1,())))))) fun y1=>
        ai (eP aO y1.2.1 false y1.1 (af v4 (0,(0,(0,(0,(false,()))))) (ag .i64 (ax v5 v0) 1)).2.2.1 true true ((af v4 (0,(0,(0,(0,(false,()))))) (ag .i64 (ax v5 v0) 1)).1,((af v4 (0,(0,(0,(0,(false,()))))) (ag .i64 (ax v5 v0) 1)).2.1,((af v4 (0,(0,(0,(0,(false,()))))) (ag .i64 (ax v5 v0) 1)).2.2.1,((af v4 (0,(0,(0,(0,(false,()))))) (ag .i64 (ax v5 v0) 1)).2.2.2.1,((af v4 (0,(0,(0,(0,(false,()))))) (ag .i64 (ax v5 v0) 1)).2.2.2.2.1,()))))) v1 [] (af v4 (0,(0,(0,(0,(false,()))))) (ag .i64 (ax v5 v0) 1)).1 (af v4 (0,(0,(0,(0,(false,()))))) (ag .i64 (ax v5 v0) 1)).2.1 (af v4 (0,(0,(0,(0,(false,()))))) (ag .i64 (ax v5 v0) 1)).2.2.1 (af v4 (0,(0,(0,(0,(false,()))))) (ag .i64 (ax v5 v0) 1)).2.2.2.1 (af v4 (0,(0,(0,(0,(false,()))))) (ag .i64 (ax v5 v0) 1)).2.2.2.2.1 v2 v3 v4 v5 v6 v7) fun y2=>
         bF y2 (fun a3=>
          bif(aH (ah a3.2.2.1) 0)then
           bif a3.1.1 then
            bif a3.2.1.1.2.2.1 then
             rec a3.2.1.1.1 a3.2.1.2.1.1 [] a3.2.2.2.2.2.2.2.1.1 a3.2.2.2.2.2.2.2.1.2.1 a3.2.2.2.2.2.2.2.2.1 a3.2.2.2.2.2.2.2.2.2.2.1.1 a3.2.2.2.2.2.2.2.2.2.2.2.1
            else
            kR a3.2.1.2.1.1 a3.2.2.2.2.2.2.2.1.1 a3.2.2.2.2.2.2.2.1.2.1 a3.2.2.2.2.2.2.2.2.1 a3.2.2.2.2.2.2.2.2.2.2.1.1 a3.2.2.2.2.2.2.2.2.2.2.2.1
           else
           bif(aZ (az a3.2.2.2.2.2.2.2.2.2.2.2.1 (ak (ofBytes a3.2.2.1))) 1)then
            bif a3.2.1.1.2.2.1 then
             rec a3.2.1.1.1 a3.2.1.2.1.1 [] a3.2.2.2.2.2.2.2.1.1 a3.2.2.2.2.2.2.2.1.2.1 a3.2.2.2.2.2.2.2.2.1 a3.2.2.2.2.2.2.2.2.2.2.1.1 (az a3.2.2.2.2.2.2.2.2.2.2.2.1 (ak (ofBytes a3.2.2.1)))
            else
            kR a3.2.1.2.1.1 a3.2.2.2.2.2.2.2.1.1 a3.2.2.2.2.2.2.2.1.2.1 a3.2.2.2.2.2.2.2.2.1 a3.2.2.2.2.2.2.2.2.2.2.1.1 (az a3.2.2.2.2.2.2.2.2.2.2.2.1 (ak (ofBytes a3.2.2.1)))
           else
           none
          else
          bif(aZ (az a3.2.2.2.2.2.2.2.2.2.2.2.1 (ak (ofBytes a3.2.2.1))) 1)then
           bif a3.2.1.1.2.2.1 then
            rec a3.2.1.1.1 a3.2.1.2.1.1 [] a3.2.2.2.2.2.2.2.1.1 a3.2.2.2.2.2.2.2.1.2.1 a3.2.2.2.2.2.2.2.2.1 a3.2.2.2.2.2.2.2.2.2.2.1.1 (az a3.2.2.2.2.2.2.2.2.2.2.2.1 (ak (ofBytes a3.2.2.1)))
           else
           kR a3.2.1.2.1.1 a3.2.2.2.2.2.2.2.1.1 a3.2.2.2.2.2.2.2.1.2.1 a3.2.2.2.2.2.2.2.2.1 a3.2.2.2.2.2.2.2.2.2.2.1.1 (az a3.2.2.2.2.2.2.2.2.2.2.2.1 (ak (ofBytes a3.2.2.1)))
          else
          none) (fun b3=>
          none)
      else
      bif(aZ (az v7 (ak (ofBytes v2))) 1)then
       ai (pY ((af v4 (0,(0,(0,(0,(false,()))))) (ag .i64 (ax v5 v0) 1)).1,((af v4 (0,(0,(0,(0,(false,()))))) (ag .i64 (ax v5 v0) 1)).2.1,((af v4 (0,(0,(0,(0,(false,()))))) (ag .i64 (ax v5 v0) 1)).2.2.1,((af v4 (0,(0,(0,(0,(false,()))))) (ag .i64 (ax v5 v0) 1)).2.2.2.1,((af v4 (0,(0,(0,(0,(false,()))))) (ag .i64 (ax v5 v0) 1)).2.2.2.2.1,())))))) fun y1=>
        ai (eP aO y1.2.1 false y1.1 (af v4 (0,(0,(0,(0,(false,()))))) (ag .i64 (ax v5 v0) 1)).2.2.1 true true ((af v4 (0,(0,(0,(0,(false,()))))) (ag .i64 (ax v5 v0) 1)).1,((af v4 (0,(0,(0,(0,(false,()))))) (ag .i64 (ax v5 v0) 1)).2.1,((af v4 (0,(0,(0,(0,(false,()))))) (ag .i64 (ax v5 v0) 1)).2.2.1,((af v4 (0,(0,(0,(0,(false,()))))) (ag .i64 (ax v5 v0) 1)).2.2.2.1,((af v4 (0,(0,(0,(0,(false,()))))) (ag .i64 (ax v5 v0) 1)).2.2.2.2.1,()))))) v1 [] (af v4 (0,(0,(0,(0,(false,()))))) (ag .i64 (ax v5 v0) 1)).1 (af v4 (0,(0,(0,(0,(false,()))))) (ag .i64 (ax v5 v0) 1)).2.1 (af v4 (0,(0,(0,(0,(false,()))))) (ag .i64 (ax v5 v0) 1)).2.2.1 (af v4 (0,(0,(0,(0,(false,()))))) (ag .i64 (ax v5 v0) 1)).2.2.2.1 (af v4 (0,(0,(0,(0,(false,()))))) (ag .i64 (ax v5 v0) 1)).2.2.2.2.1 v2 v3 v4 v5 v6 (az v7 (ak (ofBytes v2)))) fun y2=>
         bF y2 (fun a3=>
          bif(aH (ah a3.2.2.1) 0)then
           bif a3.1.1 then
            bif a3.2.1.1.2.2.1 then
             rec a3.2.1.1.1 a3.2.1.2.1.1 [] a3.2.2.2.2.2.2.2.1.1 a3.2.2.2.2.2.2.2.1.2.1 a3.2.2.2.2.2.2.2.2.1 a3.2.2.2.2.2.2.2.2.2.2.1.1 a3.2.2.2.2.2.2.2.2.2.2.2.1
            else
            kR a3.2.1.2.1.1 a3.2.2.2.2.2.2.2.1.1 a3.2.2.2.2.2.2.2.1.2.1 a3.2.2.2.2.2.2.2.2.1 a3.2.2.2.2.2.2.2.2.2.2.1.1 a3.2.2.2.2.2.2.2.2.2.2.2.1
           else
           bif(aZ (az a3.2.2.2.2.2.2.2.2.2.2.2.1 (ak (ofBytes a3.2.2.1))) 1)then
            bif a3.2.1.1.2.2.1 then
             rec a3.2.1.1.1 a3.2.1.2.1.1 [] a3.2.2.2.2.2.2.2.1.1 a3.2.2.2.2.2.2.2.1.2.1 a3.2.2.2.2.2.2.2.2.1 a3.2.2.2.2.2.2.2.2.2.2.1.1 (az a3.2.2.2.2.2.2.2.2.2.2.2.1 (ak (ofBytes a3.2.2.1)))
            else
            kR a3.2.1.2.1.1 a3.2.2.2.2.2.2.2.1.1 a3.2.2.2.2.2.2.2.1.2.1 a3.2.2.2.2.2.2.2.2.1 a3.2.2.2.2.2.2.2.2.2.2.1.1 (az a3.2.2.2.2.2.2.2.2.2.2.2.1 (ak (ofBytes a3.2.2.1)))
           else
           none
          else
          bif(aZ (az a3.2.2.2.2.2.2.2.2.2.2.2.1 (ak (ofBytes a3.2.2.1))) 1)then
           bif a3.2.1.1.2.2.1 then
            rec a3.2.1.1.1 a3.2.1.2.1.1 [] a3.2.2.2.2.2.2.2.1.1 a3.2.2.2.2.2.2.2.1.2.1 a3.2.2.2.2.2.2.2.2.1 a3.2.2.2.2.2.2.2.2.2.2.1.1 (az a3.2.2.2.2.2.2.2.2.2.2.2.1 (ak (ofBytes a3.2.2.1)))
           else
           kR a3.2.1.2.1.1 a3.2.2.2.2.2.2.2.1.1 a3.2.2.2.2.2.2.2.1.2.1 a3.2.2.2.2.2.2.2.2.1 a3.2.2.2.2.2.2.2.2.2.2.1.1 (az a3.2.2.2.2.2.2.2.2.2.2.2.1 (ak (ofBytes a3.2.2.1)))
          else
          none) (fun b3=>
          none)
      else
      none
     else
     bif(cO (ofBytes v2) [])then
      bif(bu (ah v3) (af v4 (0,(0,(0,(0,(false,()))))) (ag .i64 (ax v5 v0) 1)).2.1 (af v4 (0,(0,(0,(0,(false,()))))) (ag .i64 (ax v5 v0) 1)).2.2.1)then
       bif(aZ (az v7 (ak (sub v3 (af v4 (0,(0,(0,(0,(false,()))))) (ag .i64 (ax v5 v0) 1)).2.1 (af v4 (0,(0,(0,(0,(false,()))))) (ag .i64 (ax v5 v0) 1)).2.2.1))) 1)then
        rec (af v4 (0,(0,(0,(0,(false,()))))) (ag .i64 (ax v5 v0) 1)).2.2.1 v1 [] v3 v4 v5 v6 (az v7 (ak (sub v3 (af v4 (0,(0,(0,(0,(false,()))))) (ag .i64 (ax v5 v0) 1)).2.1 (af v4 (0,(0,(0,(0,(false,()))))) (ag .i64 (ax v5 v0) 1)).2.2.1)))
       else
       none
      else
      none
     else
     bif(aZ (az v7 (ak (ofBytes v2))) 1)then
      bif(bu (ah v3) (af v4 (0,(0,(0,(0,(false,()))))) (ag .i64 (ax v5 v0) 1)).2.1 (af v4 (0,(0,(0,(0,(false,()))))) (ag .i64 (ax v5 v0) 1)).2.2.1)then
       bif(aZ (az (az v7 (ak (ofBytes v2))) (ak (sub v3 (af v4 (0,(0,(0,(0,(false,()))))) (ag .i64 (ax v5 v0) 1)).2.1 (af v4 (0,(0,(0,(0,(false,()))))) (ag .i64 (ax v5 v0) 1)).2.2.1))) 1)then
        rec (af v4 (0,(0,(0,(0,(false,()))))) (ag .i64 (ax v5 v0) 1)).2.2.1 v1 [] v3 v4 v5 v6 (az (az v7 (ak (ofBytes v2))) (ak (sub v3 (af v4 (0,(0,(0,(0,(false,()))))) (ag .i64 (ax v5 v0) 1)).2.1 (af v4 (0,(0,(0,(0,(false,()))))) (ag .i64 (ax v5 v0) 1)).2.2.1)))
       else
       none
      else
      none
     else
     none
    else
    bif(aH (af v4 (0,(0,(0,(0,(false,()))))) (ag .i64 (ax v5 v0) 1)).1 14)then
     bif(bu (ah v3) (af v4 (0,(0,(0,(0,(false,()))))) (ag .i64 (ax v5 v0) 1)).2.1 (af v4 (0,(0,(0,(0,(false,()))))) (ag .i64 (ax v5 v0) 1)).2.2.1)then
      bif(aZ (az v2 (ak (sub v3 (af v4 (0,(0,(0,(0,(false,()))))) (ag .i64 (ax v5 v0) 1)).2.1 (af v4 (0,(0,(0,(0,(false,()))))) (ag .i64 (ax v5 v0) 1)).2.2.1))) 1)then
       rec (af v4 (0,(0,(0,(0,(false,()))))) (ag .i64 (ax v5 v0) 1)).2.2.1 v1 (az v2 (ak (sub v3 (af v4 (0,(0,(0,(0,(false,()))))) (ag .i64 (ax v5 v0) 1)).2.1 (af v4 (0,(0,(0,(0,(false,()))))) (ag .i64 (ax v5 v0) 1)).2.2.1))) v3 v4 v5 v6 v7
      else
      none
     else
     none
    else
    bif(aH (af v4 (0,(0,(0,(0,(false,()))))) (ag .i64 (ax v5 v0) 1)).1 13)then
     bif(aH (af v4 (0,(0,(0,(0,(false,()))))) (ag .i64 (ax v5 v0) 1)).1 13)then
      bif(aH (af v4 (0,(0,(0,(0,(false,()))))) (ag .i64 (ax v5 v0) 1)).1 4)then
       ai (pY ((af v4 (0,(0,(0,(0,(false,()))))) (ag .i64 (ax v5 v0) 1)).1,((af v4 (0,(0,(0,(0,(false,()))))) (ag .i64 (ax v5 v0) 1)).2.1,((af v4 (0,(0,(0,(0,(false,()))))) (ag .i64 (ax v5 v0) 1)).2.2.1,((af v4 (0,(0,(0,(0,(false,()))))) (ag .i64 (ax v5 v0) 1)).2.2.2.1,((af v4 (0,(0,(0,(0,(false,()))))) (ag .i64 (ax v5 v0) 1)).2.2.2.2.1,())))))) fun y1=>
        bif(bu (ah v3) y1.1 y1.2.1)then
         bif(cO (ofBytes v2) [])then
          bif(aZ (az v7 (ak (sub v3 y1.1 y1.2.1))) 1)then
           rec (af v4 (0,(0,(0,(0,(false,()))))) (ag .i64 (ax v5 v0) 1)).2.2.1 v1 [] v3 v4 v5 v6 (az v7 (ak (sub v3 y1.1 y1.2.1)))
          else
          none
         else
         bif(aZ (az v7 (ak (ofBytes v2))) 1)then
          bif(aZ (az (az v7 (ak (ofBytes v2))) (ak (sub v3 y1.1 y1.2.1))) 1)then
           rec (af v4 (0,(0,(0,(0,(false,()))))) (ag .i64 (ax v5 v0) 1)).2.2.1 v1 [] v3 v4 v5 v6 (az (az v7 (ak (ofBytes v2))) (ak (sub v3 y1.1 y1.2.1)))
          else
          none
         else
         none
        else
        none
      else
      bif(bu (ah v3) (aG .i64 (af v4 (0,(0,(0,(0,(false,()))))) (ag .i64 (ax v5 v0) 1)).2.1 1) (af v4 (0,(0,(0,(0,(false,()))))) (ag .i64 (ax v5 v0) 1)).2.2.1)then
       bif(!(cO (sub v3 (aG .i64 (af v4 (0,(0,(0,(0,(false,()))))) (ag .i64 (ax v5 v0) 1)).2.1 1) (af v4 (0,(0,(0,(0,(false,()))))) (ag .i64 (ax v5 v0) 1)).2.2.1) []))then
        bif(!(cO (sub v3 (aG .i64 (af v4 (0,(0,(0,(0,(false,()))))) (ag .i64 (ax v5 v0) 1)).2.1 1) (af v4 (0,(0,(0,(0,(false,()))))) (ag .i64 (ax v5 v0) 1)).2.2.1) [10]))then
         bif(cO (ofBytes v2) [])then
          bif(aZ (az v7 (ak (sub v3 (aG .i64 (af v4 (0,(0,(0,(0,(false,()))))) (ag .i64 (ax v5 v0) 1)).2.1 1) (af v4 (0,(0,(0,(0,(false,()))))) (ag .i64 (ax v5 v0) 1)).2.2.1))) 1)then
           rec (af v4 (0,(0,(0,(0,(false,()))))) (ag .i64 (ax v5 v0) 1)).2.2.1 v1 [] v3 v4 v5 v6 (az v7 (ak (sub v3 (aG .i64 (af v4 (0,(0,(0,(0,(false,()))))) (ag .i64 (ax v5 v0) 1)).2.1 1) (af v4 (0,(0,(0,(0,(false,()))))) (ag .i64 (ax v5 v0) 1)).2.2.1)))
          else
          none
         else
         bif(aZ (az v7 (ak (ofBytes v2))) 1)then
          bif(aZ (az (az v7 (ak (ofBytes v2))) (ak (sub v3 (aG .i64 (af v4 (0,(0,(0,(0,(false,()))))) (ag .i64 (ax v5 v0) 1)).2.1 1) (af v4 (0,(0,(0,(0,(false,()))))) (ag .i64 (ax v5 v0) 1)).2.2.1))) 1)then
           rec (af v4 (0,(0,(0,(0,(false,()))))) (ag .i64 (ax v5 v0) 1)).2.2.1 v1 [] v3 v4 v5 v6 (az (az v7 (ak (ofBytes v2))) (ak (sub v3 (aG .i64 (af v4 (0,(0,(0,(0,(false,()))))) (ag .i64 (ax v5 v0) 1)).2.1 1) (af v4 (0,(0,(0,(0,(false,()))))) (ag .i64 (ax v5 v0) 1)).2.2.1)))
          else
          none
         else
         none
        else
        rec (af v4 (0,(0,(0,(0,(false,()))))) (ag .i64 (ax v5 v0) 1)).2.2.1 v1 v2 v3 v4 v5 v6 v7
       else
       rec (af v4 (0,(0,(0,(0,(false,()))))) (ag .i64 (ax v5 v0) 1)).2.2.1 v1 v2 v3 v4 v5 v6 v7
      else
      none
     else
     bif(aH (af v4 (0,(0,(0,(0,(false,()))))) (ag .i64 (ax v5 v0) 1)).1 5)then
      bif(cO (ofBytes v2) [])then
       ai (pY ((af v4 (0,(0,(0,(0,(false,()))))) (ag .i64 (ax v5 v0) 1)).1,((af v4 (0,(0,(0,(0,(false,()))))) (ag .i64 (ax v5 v0) 1)).2.1,((af v4 (0,(0,(0,(0,(false,()))))) (ag .i64 (ax v5 v0) 1)).2.2.1,((af v4 (0,(0,(0,(0,(false,()))))) (ag .i64 (ax v5 v0) 1)).2.2.2.1,((af v4 (0,(0,(0,(0,(false,()))))) (ag .i64 (ax v5 v0) 1)).2.2.2.2.1,())))))) fun y1=>
        ai (eP aO y1.2.1 false y1.1 (af v4 (0,(0,(0,(0,(false,()))))) (ag .i64 (ax v5 v0) 1)).2.2.1 true true ((af v4 (0,(0,(0,(0,(false,()))))) (ag .i64 (ax v5 v0) 1)).1,((af v4 (0,(0,(0,(0,(false,()))))) (ag .i64 (ax v5 v0) 1)).2.1,((af v4 (0,(0,(0,(0,(false,()))))) (ag .i64 (ax v5 v0) 1)).2.2.1,((af v4 (0,(0,(0,(0,(false,()))))) (ag .i64 (ax v5 v0) 1)).2.2.2.1,((af v4 (0,(0,(0,(0,(false,()))))) (ag .i64 (ax v5 v0) 1)).2.2.2.2.1,()))))) v1 [] (af v4 (0,(0,(0,(0,(false,()))))) (ag .i64 (ax v5 v0) 1)).1 (af v4 (0,(0,(0,(0,(false,()))))) (ag .i64 (ax v5 v0) 1)).2.1 (af v4 (0,(0,(0,(0,(false,()))))) (ag .i64 (ax v5 v0) 1)).2.2.1 (af v4 (0,(0,(0,(0,(false,()))))) (ag .i64 (ax v5 v0) 1)).2.2.2.1 (af v4 (0,(0,(0,(0,(false,()))))) (ag .i64 (ax v5 v0) 1)).2.2.2.2.1 v2 v3 v4 v5 v6 v7) fun y2=>
         bF y2 (fun a3=>
          bif(aH (ah a3.2.2.1) 0)then
           bif a3.1.1 then
            bif a3.2.1.1.2.2.1 then
             rec a3.2.1.1.1 a3.2.1.2.1.1 [] a3.2.2.2.2.2.2.2.1.1 a3.2.2.2.2.2.2.2.1.2.1 a3.2.2.2.2.2.2.2.2.1 a3.2.2.2.2.2.2.2.2.2.2.1.1 a3.2.2.2.2.2.2.2.2.2.2.2.1
            else
            kR a3.2.1.2.1.1 a3.2.2.2.2.2.2.2.1.1 a3.2.2.2.2.2.2.2.1.2.1 a3.2.2.2.2.2.2.2.2.1 a3.2.2.2.2.2.2.2.2.2.2.1.1 a3.2.2.2.2.2.2.2.2.2.2.2.1
           else
           bif(aZ (az a3.2.2.2.2.2.2.2.2.2.2.2.1 (ak (ofBytes a3.2.2.1))) 1)then
            bif a3.2.1.1.2.2.1 then
             rec a3.2.1.1.1 a3.2.1.2.1.1 [] a3.2.2.2.2.2.2.2.1.1 a3.2.2.2.2.2.2.2.1.2.1 a3.2.2.2.2.2.2.2.2.1 a3.2.2.2.2.2.2.2.2.2.2.1.1 (az a3.2.2.2.2.2.2.2.2.2.2.2.1 (ak (ofBytes a3.2.2.1)))
            else
            kR a3.2.1.2.1.1 a3.2.2.2.2.2.2.2.1.1 a3.2.2.2.2.2.2.2.1.2.1 a3.2.2.2.2.2.2.2.2.1 a3.2.2.2.2.2.2.2.2.2.2.1.1 (az a3.2.2.2.2.2.2.2.2.2.2.2.1 (ak (ofBytes a3.2.2.1)))
           else
           none
          else
          bif(aZ (az a3.2.2.2.2.2.2.2.2.2.2.2.1 (ak (ofBytes a3.2.2.1))) 1)then
           bif a3.2.1.1.2.2.1 then
            rec a3.2.1.1.1 a3.2.1.2.1.1 [] a3.2.2.2.2.2.2.2.1.1 a3.2.2.2.2.2.2.2.1.2.1 a3.2.2.2.2.2.2.2.2.1 a3.2.2.2.2.2.2.2.2.2.2.1.1 (az a3.2.2.2.2.2.2.2.2.2.2.2.1 (ak (ofBytes a3.2.2.1)))
           else
           kR a3.2.1.2.1.1 a3.2.2.2.2.2.2.2.1.1 a3.2.2.2.2.2.2.2.1.2.1 a3.2.2.2.2.2.2.2.2.1 a3.2.2.2.2.2.2.2.2.2.2.1.1 (az a3.2.2.2.2.2.2.2.2.2.2.2.1 (ak (ofBytes a3.2.2.1)))
          else
          none) (fun b3=>
          none)
      else
      bif(aZ (az v7 (ak (ofBytes v2))) 1)then
       ai (pY ((af v4 (0,(0,(0,(0,(false,()))))) (ag .i64 (ax v5 v0) 1)).1,((af v4 (0,(0,(0,(0,(false,()))))) (ag .i64 (ax v5 v0) 1)).2.1,((af v4 (0,(0,(0,(0,(false,()))))) (ag .i64 (ax v5 v0) 1)).2.2.1,((af v4 (0,(0,(0,(0,(false,()))))) (ag .i64 (ax v5 v0) 1)).2.2.2.1,((af v4 (0,(0,(0,(0,(false,()))))) (ag .i64 (ax v5 v0) 1)).2.2.2.2.1,())))))) fun y1=>
        ai (eP aO y1.2.1 false y1.1 (af v4 (0,(0,(0,(0,(false,()))))) (ag .i64 (ax v5 v0) 1)).2.2.1 true true ((af v4 (0,(0,(0,(0,(false,()))))) (ag .i64 (ax v5 v0) 1)).1,((af v4 (0,(0,(0,(0,(false,()))))) (ag .i64 (ax v5 v0) 1)).2.1,((af v4 (0,(0,(0,(0,(false,()))))) (ag .i64 (ax v5 v0) 1)).2.2.1,((af v4 (0,(0,(0,(0,(false,()))))) (ag .i64 (ax v5 v0) 1)).2.2.2.1,((af v4 (0,(0,(0,(0,(false,()))))) (ag .i64 (ax v5 v0) 1)).2.2.2.2.1,()))))) v1 [] (af v4 (0,(0,(0,(0,(false,()))))) (ag .i64 (ax v5 v0) 1)).1 (af v4 (0,(0,(0,(0,(false,()))))) (ag .i64 (ax v5 v0) 1)).2.1 (af v4 (0,(0,(0,(0,(false,()))))) (ag .i64 (ax v5 v0) 1)).2.2.1 (af v4 (0,(0,(0,(0,(false,()))))) (ag .i64 (ax v5 v0) 1)).2.2.2.1 (af v4 (0,(0,(0,(0,(false,()))))) (ag .i64 (ax v5 v0) 1)).2.2.2.2.1 v2 v3 v4 v5 v6 (az v7 (ak (ofBytes v2)))) fun y2=>
         bF y2 (fun a3=>
          bif(aH (ah a3.2.2.1) 0)then
           bif a3.1.1 then
            bif a3.2.1.1.2.2.1 then
             rec a3.2.1.1.1 a3.2.1.2.1.1 [] a3.2.2.2.2.2.2.2.1.1 a3.2.2.2.2.2.2.2.1.2.1 a3.2.2.2.2.2.2.2.2.1 a3.2.2.2.2.2.2.2.2.2.2.1.1 a3.2.2.2.2.2.2.2.2.2.2.2.1
            else
            kR a3.2.1.2.1.1 a3.2.2.2.2.2.2.2.1.1 a3.2.2.2.2.2.2.2.1.2.1 a3.2.2.2.2.2.2.2.2.1 a3.2.2.2.2.2.2.2.2.2.2.1.1 a3.2.2.2.2.2.2.2.2.2.2.2.1
           else
           bif(aZ (az a3.2.2.2.2.2.2.2.2.2.2.2.1 (ak (ofBytes a3.2.2.1))) 1)then
            bif a3.2.1.1.2.2.1 then
             rec a3.2.1.1.1 a3.2.1.2.1.1 [] a3.2.2.2.2.2.2.2.1.1 a3.2.2.2.2.2.2.2.1.2.1 a3.2.2.2.2.2.2.2.2.1 a3.2.2.2.2.2.2.2.2.2.2.1.1 (az a3.2.2.2.2.2.2.2.2.2.2.2.1 (ak (ofBytes a3.2.2.1)))
            else
            kR a3.2.1.2.1.1 a3.2.2.2.2.2.2.2.1.1 a3.2.2.2.2.2.2.2.1.2.1 a3.2.2.2.2.2.2.2.2.1 a3.2.2.2.2.2.2.2.2.2.2.1.1 (az a3.2.2.2.2.2.2.2.2.2.2.2.1 (ak (ofBytes a3.2.2.1)))
           else
           none
          else
          bif(aZ (az a3.2.2.2.2.2.2.2.2.2.2.2.1 (ak (ofBytes a3.2.2.1))) 1)then
           bif a3.2.1.1.2.2.1 then
            rec a3.2.1.1.1 a3.2.1.2.1.1 [] a3.2.2.2.2.2.2.2.1.1 a3.2.2.2.2.2.2.2.1.2.1 a3.2.2.2.2.2.2.2.2.1 a3.2.2.2.2.2.2.2.2.2.2.1.1 (az a3.2.2.2.2.2.2.2.2.2.2.2.1 (ak (ofBytes a3.2.2.1)))
           else
           kR a3.2.1.2.1.1 a3.2.2.2.2.2.2.2.1.1 a3.2.2.2.2.2.2.2.1.2.1 a3.2.2.2.2.2.2.2.2.1 a3.2.2.2.2.2.2.2.2.2.2.1.1 (az a3.2.2.2.2.2.2.2.2.2.2.2.1 (ak (ofBytes a3.2.2.1)))
          else
          none) (fun b3=>
          none)
      else
      none
     else
     bif(cO (ofBytes v2) [])then
      bif(bu (ah v3) (af v4 (0,(0,(0,(0,(false,()))))) (ag .i64 (ax v5 v0) 1)).2.1 (af v4 (0,(0,(0,(0,(false,()))))) (ag .i64 (ax v5 v0) 1)).2.2.1)then
       bif(aZ (az v7 (ak (sub v3 (af v4 (0,(0,(0,(0,(false,()))))) (ag .i64 (ax v5 v0) 1)).2.1 (af v4 (0,(0,(0,(0,(false,()))))) (ag .i64 (ax v5 v0) 1)).2.2.1))) 1)then
        rec (af v4 (0,(0,(0,(0,(false,()))))) (ag .i64 (ax v5 v0) 1)).2.2.1 v1 [] v3 v4 v5 v6 (az v7 (ak (sub v3 (af v4 (0,(0,(0,(0,(false,()))))) (ag .i64 (ax v5 v0) 1)).2.1 (af v4 (0,(0,(0,(0,(false,()))))) (ag .i64 (ax v5 v0) 1)).2.2.1)))
       else
       none
      else
      none
     else
     bif(aZ (az v7 (ak (ofBytes v2))) 1)then
      bif(bu (ah v3) (af v4 (0,(0,(0,(0,(false,()))))) (ag .i64 (ax v5 v0) 1)).2.1 (af v4 (0,(0,(0,(0,(false,()))))) (ag .i64 (ax v5 v0) 1)).2.2.1)then
       bif(aZ (az (az v7 (ak (ofBytes v2))) (ak (sub v3 (af v4 (0,(0,(0,(0,(false,()))))) (ag .i64 (ax v5 v0) 1)).2.1 (af v4 (0,(0,(0,(0,(false,()))))) (ag .i64 (ax v5 v0) 1)).2.2.1))) 1)then
        rec (af v4 (0,(0,(0,(0,(false,()))))) (ag .i64 (ax v5 v0) 1)).2.2.1 v1 [] v3 v4 v5 v6 (az (az v7 (ak (ofBytes v2))) (ak (sub v3 (af v4 (0,(0,(0,(0,(false,()))))) (ag .i64 (ax v5 v0) 1)).2.1 (af v4 (0,(0,(0,(0,(false,()))))) (ag .i64 (ax v5 v0) 1)).2.2.1)))
       else
       none
      else
      none
     else
     none
    else
    bif(aH (af v4 (0,(0,(0,(0,(false,()))))) (ag .i64 (ax v5 v0) 1)).1 4)then
     bif(aH (af v4 (0,(0,(0,(0,(false,()))))) (ag .i64 (ax v5 v0) 1)).1 4)then
      ai (pY ((af v4 (0,(0,(0,(0,(false,()))))) (ag .i64 (ax v5 v0) 1)).1,((af v4 (0,(0,(0,(0,(false,()))))) (ag .i64 (ax v5 v0) 1)).2.1,((af v4 (0,(0,(0,(0,(false,()))))) (ag .i64 (ax v5 v0) 1)).2.2.1,((af v4 (0,(0,(0,(0,(false,()))))) (ag .i64 (ax v5 v0) 1)).2.2.2.1,((af v4 (0,(0,(0,(0,(false,()))))) (ag .i64 (ax v5 v0) 1)).2.2.2.2.1,())))))) fun y1=>
       bif(bu (ah v3) y1.1 y1.2.1)then
        bif(cO (ofBytes v2) [])then
         bif(aZ (az v7 (ak (sub v3 y1.1 y1.2.1))) 1)then
          rec (af v4 (0,(0,(0,(0,(false,()))))) (ag .i64 (ax v5 v0) 1)).2.2.1 v1 [] v3 v4 v5 v6 (az v7 (ak (sub v3 y1.1 y1.2.1)))
         else
         none
        else
        bif(aZ (az v7 (ak (ofBytes v2))) 1)then
         bif(aZ (az (az v7 (ak (ofBytes v2))) (ak (sub v3 y1.1 y1.2.1))) 1)then
          rec (af v4 (0,(0,(0,(0,(false,()))))) (ag .i64 (ax v5 v0) 1)).2.2.1 v1 [] v3 v4 v5 v6 (az (az v7 (ak (ofBytes v2))) (ak (sub v3 y1.1 y1.2.1)))
         else
         none
        else
        none
       else
       none
     else
     bif(bu (ah v3) (aG .i64 (af v4 (0,(0,(0,(0,(false,()))))) (ag .i64 (ax v5 v0) 1)).2.1 1) (af v4 (0,(0,(0,(0,(false,()))))) (ag .i64 (ax v5 v0) 1)).2.2.1)then
      bif(!(cO (sub v3 (aG .i64 (af v4 (0,(0,(0,(0,(false,()))))) (ag .i64 (ax v5 v0) 1)).2.1 1) (af v4 (0,(0,(0,(0,(false,()))))) (ag .i64 (ax v5 v0) 1)).2.2.1) []))then
       bif(!(cO (sub v3 (aG .i64 (af v4 (0,(0,(0,(0,(false,()))))) (ag .i64 (ax v5 v0) 1)).2.1 1) (af v4 (0,(0,(0,(0,(false,()))))) (ag .i64 (ax v5 v0) 1)).2.2.1) [10]))then
        bif(cO (ofBytes v2) [])then
         bif(aZ (az v7 (ak (sub v3 (aG .i64 (af v4 (0,(0,(0,(0,(false,()))))) (ag .i64 (ax v5 v0) 1)).2.1 1) (af v4 (0,(0,(0,(0,(false,()))))) (ag .i64 (ax v5 v0) 1)).2.2.1))) 1)then
          rec (af v4 (0,(0,(0,(0,(false,()))))) (ag .i64 (ax v5 v0) 1)).2.2.1 v1 [] v3 v4 v5 v6 (az v7 (ak (sub v3 (aG .i64 (af v4 (0,(0,(0,(0,(false,()))))) (ag .i64 (ax v5 v0) 1)).2.1 1) (af v4 (0,(0,(0,(0,(false,()))))) (ag .i64 (ax v5 v0) 1)).2.2.1)))
         else
         none
        else
        bif(aZ (az v7 (ak (ofBytes v2))) 1)then
         bif(aZ (az (az v7 (ak (ofBytes v2))) (ak (sub v3 (aG .i64 (af v4 (0,(0,(0,(0,(false,()))))) (ag .i64 (ax v5 v0) 1)).2.1 1) (af v4 (0,(0,(0,(0,(false,()))))) (ag .i64 (ax v5 v0) 1)).2.2.1))) 1)then
          rec (af v4 (0,(0,(0,(0,(false,()))))) (ag .i64 (ax v5 v0) 1)).2.2.1 v1 [] v3 v4 v5 v6 (az (az v7 (ak (ofBytes v2))) (ak (sub v3 (aG .i64 (af v4 (0,(0,(0,(0,(false,()))))) (ag .i64 (ax v5 v0) 1)).2.1 1) (af v4 (0,(0,(0,(0,(false,()))))) (ag .i64 (ax v5 v0) 1)).2.2.1)))
         else
         none
        else
        none
       else
       rec (af v4 (0,(0,(0,(0,(false,()))))) (ag .i64 (ax v5 v0) 1)).2.2.1 v1 v2 v3 v4 v5 v6 v7
      else
      rec (af v4 (0,(0,(0,(0,(false,()))))) (ag .i64 (ax v5 v0) 1)).2.2.1 v1 v2 v3 v4 v5 v6 v7
     else
     none
    else
    bif(aH (af v4 (0,(0,(0,(0,(false,()))))) (ag .i64 (ax v5 v0) 1)).1 5)then
     bif(cO (ofBytes v2) [])then
      ai (pY ((af v4 (0,(0,(0,(0,(false,()))))) (ag .i64 (ax v5 v0) 1)).1,((af v4 (0,(0,(0,(0,(false,()))))) (ag .i64 (ax v5 v0) 1)).2.1,((af v4 (0,(0,(0,(0,(false,()))))) (ag .i64 (ax v5 v0) 1)).2.2.1,((af v4 (0,(0,(0,(0,(false,()))))) (ag .i64 (ax v5 v0) 1)).2.2.2.1,((af v4 (0,(0,(0,(0,(false,()))))) (ag .i64 (ax v5 v0) 1)).2.2.2.2.1,())))))) fun y1=>
       ai (eP aO y1.2.1 false y1.1 (af v4 (0,(0,(0,(0,(false,()))))) (ag .i64 (ax v5 v0) 1)).2.2.1 true true ((af v4 (0,(0,(0,(0,(false,()))))) (ag .i64 (ax v5 v0) 1)).1,((af v4 (0,(0,(0,(0,(false,()))))) (ag .i64 (ax v5 v0) 1)).2.1,((af v4 (0,(0,(0,(0,(false,()))))) (ag .i64 (ax v5 v0) 1)).2.2.1,((af v4 (0,(0,(0,(0,(false,()))))) (ag .i64 (ax v5 v0) 1)).2.2.2.1,((af v4 (0,(0,(0,(0,(false,()))))) (ag .i64 (ax v5 v0) 1)).2.2.2.2.1,()))))) v1 [] (af v4 (0,(0,(0,(0,(false,()))))) (ag .i64 (ax v5 v0) 1)).1 (af v4 (0,(0,(0,(0,(false,()))))) (ag .i64 (ax v5 v0) 1)).2.1 (af v4 (0,(0,(0,(0,(false,()))))) (ag .i64 (ax v5 v0) 1)).2.2.1 (af v4 (0,(0,(0,(0,(false,()))))) (ag .i64 (ax v5 v0) 1)).2.2.2.1 (af v4 (0,(0,(0,(0,(false,()))))) (ag .i64 (ax v5 v0) 1)).2.2.2.2.1 v2 v3 v4 v5 v6 v7) fun y2=>
        bF y2 (fun a3=>
         bif(aH (ah a3.2.2.1) 0)then
          bif a3.1.1 then
           bif a3.2.1.1.2.2.1 then
            rec a3.2.1.1.1 a3.2.1.2.1.1 [] a3.2.2.2.2.2.2.2.1.1 a3.2.2.2.2.2.2.2.1.2.1 a3.2.2.2.2.2.2.2.2.1 a3.2.2.2.2.2.2.2.2.2.2.1.1 a3.2.2.2.2.2.2.2.2.2.2.2.1
           else
           kR a3.2.1.2.1.1 a3.2.2.2.2.2.2.2.1.1 a3.2.2.2.2.2.2.2.1.2.1 a3.2.2.2.2.2.2.2.2.1 a3.2.2.2.2.2.2.2.2.2.2.1.1 a3.2.2.2.2.2.2.2.2.2.2.2.1
          else
          bif(aZ (az a3.2.2.2.2.2.2.2.2.2.2.2.1 (ak (ofBytes a3.2.2.1))) 1)then
           bif a3.2.1.1.2.2.1 then
            rec a3.2.1.1.1 a3.2.1.2.1.1 [] a3.2.2.2.2.2.2.2.1.1 a3.2.2.2.2.2.2.2.1.2.1 a3.2.2.2.2.2.2.2.2.1 a3.2.2.2.2.2.2.2.2.2.2.1.1 (az a3.2.2.2.2.2.2.2.2.2.2.2.1 (ak (ofBytes a3.2.2.1)))
           else
           kR a3.2.1.2.1.1 a3.2.2.2.2.2.2.2.1.1 a3.2.2.2.2.2.2.2.1.2.1 a3.2.2.2.2.2.2.2.2.1 a3.2.2.2.2.2.2.2.2.2.2.1.1 (az a3.2.2.2.2.2.2.2.2.2.2.2.1 (ak (ofBytes a3.2.2.1)))
          else
          none
         else
         bif(aZ (az a3.2.2.2.2.2.2.2.2.2.2.2.1 (ak (ofBytes a3.2.2.1))) 1)then
          bif a3.2.1.1.2.2.1 then
           rec a3.2.1.1.1 a3.2.1.2.1.1 [] a3.2.2.2.2.2.2.2.1.1 a3.2.2.2.2.2.2.2.1.2.1 a3.2.2.2.2.2.2.2.2.1 a3.2.2.2.2.2.2.2.2.2.2.1.1 (az a3.2.2.2.2.2.2.2.2.2.2.2.1 (ak (ofBytes a3.2.2.1)))
          else
          kR a3.2.1.2.1.1 a3.2.2.2.2.2.2.2.1.1 a3.2.2.2.2.2.2.2.1.2.1 a3.2.2.2.2.2.2.2.2.1 a3.2.2.2.2.2.2.2.2.2.2.1.1 (az a3.2.2.2.2.2.2.2.2.2.2.2.1 (ak (ofBytes a3.2.2.1)))
         else
         none) (fun b3=>
         none)
     else
     bif(aZ (az v7 (ak (ofBytes v2))) 1)then
      ai (pY ((af v4 (0,(0,(0,(0,(false,()))))) (ag .i64 (ax v5 v0) 1)).1,((af v4 (0,(0,(0,(0,(false,()))))) (ag .i64 (ax v5 v0) 1)).2.1,((af v4 (0,(0,(0,(0,(false,()))))) (ag .i64 (ax v5 v0) 1)).2.2.1,((af v4 (0,(0,(0,(0,(false,()))))) (ag .i64 (ax v5 v0) 1)).2.2.2.1,((af v4 (0,(0,(0,(0,(false,()))))) (ag .i64 (ax v5 v0) 1)).2.2.2.2.1,())))))) fun y1=>
       ai (eP aO y1.2.1 false y1.1 (af v4 (0,(0,(0,(0,(false,()))))) (ag .i64 (ax v5 v0) 1)).2.2.1 true true ((af v4 (0,(0,(0,(0,(false,()))))) (ag .i64 (ax v5 v0) 1)).1,((af v4 (0,(0,(0,(0,(false,()))))) (ag .i64 (ax v5 v0) 1)).2.1,((af v4 (0,(0,(0,(0,(false,()))))) (ag .i64 (ax v5 v0) 1)).2.2.1,((af v4 (0,(0,(0,(0,(false,()))))) (ag .i64 (ax v5 v0) 1)).2.2.2.1,((af v4 (0,(0,(0,(0,(false,()))))) (ag .i64 (ax v5 v0) 1)).2.2.2.2.1,()))))) v1 [] (af v4 (0,(0,(0,(0,(false,()))))) (ag .i64 (ax v5 v0) 1)).1 (af v4 (0,(0,(0,(0,(false,()))))) (ag .i64 (ax v5 v0) 1)).2.1 (af v4 (0,(0,(0,(0,(false,()))))) (ag .i64 (ax v5 v0) 1)).2.2.1 (af v4 (0,(0,(0,(0,(false,()))))) (ag .i64 (ax v5 v0) 1)).2.2.2.1 (af v4 (0,(0,(0,(0,(false,()))))) (ag .i64 (ax v5 v0) 1)).2.2.2.2.1 v2 v3 v4 v5 v6 (az v7 (ak (ofBytes v2)))) fun y2=>
        bF y2 (fun a3=>
         bif(aH (ah a3.2.2.1) 0)then
          bif a3.1.1 then
           bif a3.2.1.1.2.2.1 then
            rec a3.2.1.1.1 a3.2.1.2.1.1 [] a3.2.2.2.2.2.2.2.1.1 a3.2.2.2.2.2.2.2.1.2.1 a3.2.2.2.2.2.2.2.2.1 a3.2.2.2.2.2.2.2.2.2.2.1.1 a3.2.2.2.2.2.2.2.2.2.2.2.1
           else
           kR a3.2.1.2.1.1 a3.2.2.2.2.2.2.2.1.1 a3.2.2.2.2.2.2.2.1.2.1 a3.2.2.2.2.2.2.2.2.1 a3.2.2.2.2.2.2.2.2.2.2.1.1 a3.2.2.2.2.2.2.2.2.2.2.2.1
          else
          bif(aZ (az a3.2.2.2.2.2.2.2.2.2.2.2.1 (ak (ofBytes a3.2.2.1))) 1)then
           bif a3.2.1.1.2.2.1 then
            rec a3.2.1.1.1 a3.2.1.2.1.1 [] a3.2.2.2.2.2.2.2.1.1 a3.2.2.2.2.2.2.2.1.2.1 a3.2.2.2.2.2.2.2.2.1 a3.2.2.2.2.2.2.2.2.2.2.1.1 (az a3.2.2.2.2.2.2.2.2.2.2.2.1 (ak (ofBytes a3.2.2.1)))
           else
           kR a3.2.1.2.1.1 a3.2.2.2.2.2.2.2.1.1 a3.2.2.2.2.2.2.2.1.2.1 a3.2.2.2.2.2.2.2.2.1 a3.2.2.2.2.2.2.2.2.2.2.1.1 (az a3.2.2.2.2.2.2.2.2.2.2.2.1 (ak (ofBytes a3.2.2.1)))
          else
          none
         else
         bif(aZ (az a3.2.2.2.2.2.2.2.2.2.2.2.1 (ak (ofBytes a3.2.2.1))) 1)then
          bif a3.2.1.1.2.2.1 then
           rec a3.2.1.1.1 a3.2.1.2.1.1 [] a3.2.2.2.2.2.2.2.1.1 a3.2.2.2.2.2.2.2.1.2.1 a3.2.2.2.2.2.2.2.2.1 a3.2.2.2.2.2.2.2.2.2.2.1.1 (az a3.2.2.2.2.2.2.2.2.2.2.2.1 (ak (ofBytes a3.2.2.1)))
          else
          kR a3.2.1.2.1.1 a3.2.2.2.2.2.2.2.1.1 a3.2.2.2.2.2.2.2.1.2.1 a3.2.2.2.2.2.2.2.2.1 a3.2.2.2.2.2.2.2.2.2.2.1.1 (az a3.2.2.2.2.2.2.2.2.2.2.2.1 (ak (ofBytes a3.2.2.1)))
         else
         none) (fun b3=>
         none)
     else
     none
    else
    bif(cO (ofBytes v2) [])then
     bif(bu (ah v3) (af v4 (0,(0,(0,(0,(false,()))))) (ag .i64 (ax v5 v0) 1)).2.1 (af v4 (0,(0,(0,(0,(false,()))))) (ag .i64 (ax v5 v0) 1)).2.2.1)then
      bif(aZ (az v7 (ak (sub v3 (af v4 (0,(0,(0,(0,(false,()))))) (ag .i64 (ax v5 v0) 1)).2.1 (af v4 (0,(0,(0,(0,(false,()))))) (ag .i64 (ax v5 v0) 1)).2.2.1))) 1)then
       rec (af v4 (0,(0,(0,(0,(false,()))))) (ag .i64 (ax v5 v0) 1)).2.2.1 v1 [] v3 v4 v5 v6 (az v7 (ak (sub v3 (af v4 (0,(0,(0,(0,(false,()))))) (ag .i64 (ax v5 v0) 1)).2.1 (af v4 (0,(0,(0,(0,(false,()))))) (ag .i64 (ax v5 v0) 1)).2.2.1)))
      else
      none
     else
     none
    else
    bif(aZ (az v7 (ak (ofBytes v2))) 1)then
     bif(bu (ah v3) (af v4 (0,(0,(0,(0,(false,()))))) (ag .i64 (ax v5 v0) 1)).2.1 (af v4 (0,(0,(0,(0,(false,()))))) (ag .i64 (ax v5 v0) 1)).2.2.1)then
      bif(aZ (az (az v7 (ak (ofBytes v2))) (ak (sub v3 (af v4 (0,(0,(0,(0,(false,()))))) (ag .i64 (ax v5 v0) 1)).2.1 (af v4 (0,(0,(0,(0,(false,()))))) (ag .i64 (ax v5 v0) 1)).2.2.1))) 1)then
       rec (af v4 (0,(0,(0,(0,(false,()))))) (ag .i64 (ax v5 v0) 1)).2.2.1 v1 [] v3 v4 v5 v6 (az (az v7 (ak (ofBytes v2))) (ak (sub v3 (af v4 (0,(0,(0,(0,(false,()))))) (ag .i64 (ax v5 v0) 1)).2.1 (af v4 (0,(0,(0,(0,(false,()))))) (ag .i64 (ax v5 v0) 1)).2.2.1)))
      else
      none
     else
     none
    else
    none
  else
  none
 else
 kE v1 v2 v3 v4 v5 v6 v7
def fQ:Nat->Int->(List UInt8)->(List (Int))->(List UInt8)->(List (Int×Int×Int×Int×Bool×Unit))->(List (Int×Int))->(List UInt8)->(List (Int))->Option (yc.den⊕wM.den)
 |0,_,_,_,_,_,_,_,_=>none
 |n+1,v0,v1,v2,v3,v4,v5,v6,v7=>ry (fQ n) (fun e0 e1 e2 e3 e4 e5 e6=>some (.inl ((),((e0,()),(),(),()),(e1,(),(),(e2,e3,()),e4,(),(e5,()),e6,(),())))) (fun r0 r1 r2 r3 r4 r5=>some (.inr ((),((r0,()),(),(),()),((r1,r2,()),r3,(),(r4,()),r5,(),())))) v0 v1 v2 v3 v4 v5 v6 v7
noncomputable def Et:bG:=gQ G9 vW yc wM (.exit 0) (fun v=>fQ aO v.1.1 v.2.1.1.1 v.2.2.1 v.2.2.2.2.2.1.1 v.2.2.2.2.2.1.2.1 v.2.2.2.2.2.2.1 v.2.2.2.2.2.2.2.2.1.1 v.2.2.2.2.2.2.2.2.2.1) 18
def Za (x0:List UInt8):Option ((List UInt8)×Unit):=
 ai (aas x0) fun y0=>
  ai (jV aO y0.1 (ah y0.1) 0 x0 [] x0 x0 y0.1 [] []) fun y1=>
   bF y1 (fun a2=>
    ai (fQ aO 0 a2.2.1.1.2.1 [] a2.2.2.1.1 a2.2.2.1.2.1 a2.2.2.2.1 a2.2.1.1.2.1 a2.2.2.2.2.2.1) fun y3=>
     bF y3 (fun a4=>
      bif(cO (ofBytes a4.2.2.1) [])then
       bif(aH (ah a4.2.2.2.2.2.2.2.2.2.1) (ah a4.2.2.2.2.2.2.2.2.2.1))then
        some ((ofBytes a4.2.2.2.2.2.2.2.2.2.1),())
       else
       none
      else
      bif(aZ (az a4.2.2.2.2.2.2.2.2.2.1 (ak (ofBytes a4.2.2.1))) 1)then
       bif(aH (ah (az a4.2.2.2.2.2.2.2.2.2.1 (ak (ofBytes a4.2.2.1)))) (ah (az a4.2.2.2.2.2.2.2.2.2.1 (ak (ofBytes a4.2.2.1)))))then
        some ((ofBytes (az a4.2.2.2.2.2.2.2.2.2.1 (ak (ofBytes a4.2.2.1)))),())
       else
       none
      else
      none) (fun b4=>
      bif(aH (ah b4.2.2.2.2.2.2.1) (ah b4.2.2.2.2.2.2.1))then
       some ((ofBytes b4.2.2.2.2.2.2.1),())
      else
      none)) (fun b2=>
    none)
def XI:Sum:=(⟨[.str],[(.str,false)],fun x=>Za x.1⟩:Sum)
noncomputable def xU:Env:=fZ Tryz.prog tt [(158,VB),(222,XP),(280,We)] [(159,3,Jw),(219,4,G9),(224,5,Jg),(270,500004,aiY),(270,600002,ajf),(270,600004,air),(270,600005,aiK),(83,600001,VG),(219,600005,Rw),(219,600016,Ou),(219,600017,NM),(219,600019,Rl),(219,600010,QK),(219,600020,Qz),(220,600003,RG),(224,600006,Ua),(224,600016,OB),(224,600007,RN),(224,600009,SL),(224,600020,Ql)] [(159,3,ED),(224,5,EI),(219,4,Et)] [270]
def EP {γ:Type} (a:uG.den->Option γ) (b:xQ.den->Option γ) (c:xZ.den->Option γ) (v:uG.den):Option γ:=rW (fun v0 v1 v2 v3 v4 v5 v6 v7 v8 v9=>a ((v0,v1,v2,()),((v3,v4,v5,()),(),()),((v6,v7,()),v8,(),v9,()))) (fun e0 e1 e2 e3 e4 e5 e6=>b ((),((e0,e1,e2,()),(),()),((e3,e4,()),e5,(),e6,()))) (fun r0 r1 r2 r3 r4 r5=>c ((),((r0,()),(),(),()),((r1,r2,()),r3,(),(r4,()),r5,(),()))) v.1.1 v.1.2.1 v.1.2.2.1 v.2.1.1.1 v.2.1.1.2.1 v.2.1.1.2.2.1 v.2.2.1.1 v.2.2.1.2.1 v.2.2.2.1 v.2.2.2.2.2.1
theorem Uw:di xU 159 Jd ED:=Fv (EP) (lp:=fun n (v:uG.den)=>jV n v.1.1 v.1.2.1 v.1.2.2.1 v.2.1.1.1 v.2.1.1.2.1 v.2.1.1.2.2.1 v.2.2.1.1 v.2.2.1.2.1 v.2.2.2.1 v.2.2.2.2.2.1) (by kernel_rfl) (fun _=>rfl) (fun _ _=>rfl) (fun d n K v=>by kernel_rfl) (by intros;simp only[EP,rW,bg,bn,ae,aV,bi])
def Fa {γ:Type} (a:uS.den->Option γ) (b:wZ.den->Option γ) (c:xw.den->Option γ) (v:uS.den):Option γ:=qX (fun v0 v1 v2 v3 v4 v5 v6 v7 v8 v9 v10 v11 v12 v13 v14 v15 v16 v17 v18 v19=>a ((v0,v1,v2,()),((v3,v4,v5,v6,()),(v7,()),(),(),()),(v8,(v9,v10,v11,v12,v13,()),v14,(),(),(v15,v16,()),v17,(),(v18,()),v19,(),()))) (fun e0 e1 e2 e3 e4 e5 e6 e7 e8 e9 e10 e11 e12 e13 e14 e15 e16 e17=>b ((e0,()),((e1,e2,e3,e4,()),(e5,()),(),(),()),(e6,(e7,e8,e9,e10,e11,()),e12,(),(),(e13,e14,()),e15,(),(e16,()),e17,(),()))) (fun r0 r1 r2 r3 r4 r5=>c ((),((r0,()),(),(),()),((r1,r2,()),r3,(),(r4,()),r5,(),()))) v.1.1 v.1.2.1 v.1.2.2.1 v.2.1.1.1 v.2.1.1.2.1 v.2.1.1.2.2.1 v.2.1.1.2.2.2.1 v.2.1.2.1.1 v.2.2.1 v.2.2.2.1.1 v.2.2.2.1.2.1 v.2.2.2.1.2.2.1 v.2.2.2.1.2.2.2.1 v.2.2.2.1.2.2.2.2.1 v.2.2.2.2.1 v.2.2.2.2.2.2.2.1.1 v.2.2.2.2.2.2.2.1.2.1 v.2.2.2.2.2.2.2.2.1 v.2.2.2.2.2.2.2.2.2.2.1.1 v.2.2.2.2.2.2.2.2.2.2.2.1
theorem SS:di xU 224 Ig EI:=Fv (Fa) (lp:=fun n (v:uS.den)=>eP n v.1.1 v.1.2.1 v.1.2.2.1 v.2.1.1.1 v.2.1.1.2.1 v.2.1.1.2.2.1 v.2.1.1.2.2.2.1 v.2.1.2.1.1 v.2.2.1 v.2.2.2.1.1 v.2.2.2.1.2.1 v.2.2.2.1.2.2.1 v.2.2.2.1.2.2.2.1 v.2.2.2.1.2.2.2.2.1 v.2.2.2.2.1 v.2.2.2.2.2.2.2.1.1 v.2.2.2.2.2.2.2.1.2.1 v.2.2.2.2.2.2.2.2.1 v.2.2.2.2.2.2.2.2.2.2.1.1 v.2.2.2.2.2.2.2.2.2.2.2.1) (by kernel_rfl) (fun _=>rfl) (fun _ _=>rfl) (fun d n K v=>by kernel_rfl) (by intros;simp only[Fa,qX,bg,bn,ae,aV,bi])
def Fh {γ:Type} (a:vW.den->Option γ) (b:yc.den->Option γ) (c:wM.den->Option γ) (v:vW.den):Option γ:=ry (fun v0 v1 v2 v3 v4 v5 v6 v7=>a ((v0,()),((v1,()),(),(),()),(v2,(),(),(v3,v4,()),v5,(),(v6,()),v7,(),()))) (fun e0 e1 e2 e3 e4 e5 e6=>b ((),((e0,()),(),(),()),(e1,(),(),(e2,e3,()),e4,(),(e5,()),e6,(),()))) (fun r0 r1 r2 r3 r4 r5=>c ((),((r0,()),(),(),()),((r1,r2,()),r3,(),(r4,()),r5,(),()))) v.1.1 v.2.1.1.1 v.2.2.1 v.2.2.2.2.2.1.1 v.2.2.2.2.2.1.2.1 v.2.2.2.2.2.2.1 v.2.2.2.2.2.2.2.2.1.1 v.2.2.2.2.2.2.2.2.2.1
theorem UI:di xU 219 Ja Et:=Fv (Fh) (lp:=fun n (v:vW.den)=>fQ n v.1.1 v.2.1.1.1 v.2.2.1 v.2.2.2.2.2.1.1 v.2.2.2.2.2.1.2.1 v.2.2.2.2.2.2.1 v.2.2.2.2.2.2.2.2.1.1 v.2.2.2.2.2.2.2.2.2.1) (by kernel_rfl) (fun _=>rfl) (fun _ _=>rfl) (fun d n K v=>by kernel_rfl) (by intros;simp only[Fh,ry,bg,bn,ae,aV,bi])
theorem anl:bZ OG=[]:=by kernel_rfl
theorem alz:iJ OG=[(cA (cA (cB (cA (cB (cB (OG)))))),cB (cA (cB (cA (cB (cB (OG)))))))]:=by kernel_rfl
theorem an0:cZ xU 270 OG:=qN OG (by rw[alz];exact(aC ⟨(fun _=>(show og 270 4=some (cA (cA (cB (cA (cB (cB (OG)))))),cB (cA (cB (cA (cB (cB (OG))))))) by kernel_rfl)),aN⟩)) (by rw[anl];exact aN)
theorem Xw:bZ xy=[Jd]:=by kernel_rfl
theorem U6:cZ xU 159 xy:=bP xy (fun _=>rfl) (by rw[Xw];exact(aC ⟨fL (by kernel_rfl) (Uw),aN⟩))
theorem Xq:bZ xg=[Ja]:=by kernel_rfl
theorem U5:cZ xU 219 xg:=bP xg (fun _=>rfl) (by rw[Xq];exact(aC ⟨fL (by kernel_rfl) (UI),aN⟩))
theorem Xc:bZ xR=[Ig]:=by kernel_rfl
theorem Va:cZ xU 224 xR:=bP xR (fun _=>rfl) (by rw[Xc];exact(aC ⟨fL (by kernel_rfl) (SS),aN⟩))
theorem adl:bJ xU:=dQ tok mixed bV (sg:=[(158,VB),(222,XP),(280,We)]) (aC ⟨(abe),(aC ⟨(acV),(aC ⟨(acd),aN⟩)⟩)⟩) [270,159,219,224] (by kernel_rfl) (by kernel_rfl) (aC ⟨⟨Tryz.f270,OG,by kernel_rfl,by kernel_rfl,an0⟩,(aC ⟨⟨Tryz.f159,xy,by kernel_rfl,by kernel_rfl,U6⟩,(aC ⟨⟨Tryz.f219,xg,by kernel_rfl,by kernel_rfl,U5⟩,(aC ⟨⟨Tryz.f224,xR,by kernel_rfl,by kernel_rfl,Va⟩,aN⟩)⟩)⟩)⟩) bW bC
theorem aaV:bD Tryz.prog 270 XI:=ed adl (by decide) fun x=>by kernel_rfl
def RP (x0:List UInt8) (x1:Int) (x2:Int×(List ((List UInt8)×(Bool×Unit)))×(Bool×Unit)):Option ((Int×(List ((List UInt8)×(Bool×Unit)))×(Bool×Unit))×Unit):=
 ai (mJ x2.2.1) fun y0=>
  bif(aH x1 1)then
   some ((x2.1,(y0.1,(false,()))),())
  else
  bif(aH x1 2)then
   some ((0,(y0.1,((fD 0 (ah y0.1)),()))),())
  else
  bif(aH x1 4)then
   ai (UW x0) fun y1=>
    bif(aH y1.1 4)then
     some ((y1.1,(y0.1,(false,()))),())
    else
    bif(aH y1.1 5)then
     some ((y1.1,(y0.1,(false,()))),())
    else
    some ((0,(y0.1,(false,()))),())
  else
  bif(aH x1 6)then
   bif(!(aH x2.1 0))then
    ai (Za x0) fun y1=>
     bif(cO x0 x0)then
      bif(aH x2.1 x2.1)then
       bif(fF (aH x2.1 5) (aH x2.1 5))then
        bif(((cO x0 x0)&&true)&&((cO y1.1 y1.1)&&true))then
         bif(aZ (az y0.1 [(y1.1,((aH x2.1 5),()))]) 24)then
          bif(cO x0 x0)then
           bif(aH x2.1 x2.1)then
            bif(fF (aH x2.1 5) (aH x2.1 5))then
             bif((cO y1.1 y1.1)&&((fF (aH x2.1 5) (aH x2.1 5))&&true))then
              some ((0,((az y0.1 [(y1.1,((aH x2.1 5),()))]),(false,()))),())
             else
             none
            else
            none
           else
           none
          else
          none
         else
         none
        else
        none
       else
       none
      else
      none
     else
     none
   else
   some ((0,(y0.1,(false,()))),())
  else
  some ((0,(y0.1,(false,()))),())
def Vq:Sum:=(⟨[.str,.int .i64,.pair (.int .i64) (.pair (.list (.pair .str (.pair .bool .unit))) (.pair .bool .unit))],[(.pair (.int .i64) (.pair (.list (.pair .str (.pair .bool .unit))) (.pair .bool .unit)),false)],fun x=>RP x.1 x.2.1 x.2.2.1⟩:Sum)
noncomputable def anC:Env:=dH Tryz.prog tt 212 [(227,Hy),(262,lF),(270,XI)] [] []
theorem abV:bJ anC:=bz tok mixed bV (sg:=[(227,Hy),(262,lF),(270,XI)]) (aC ⟨(Mc),(aC ⟨(qj),(aC ⟨(aaV),aN⟩)⟩)⟩) (fn:=Tryz.f212) (c:=(Tryz.f212.body).getD .skip) (by kernel_rfl) (by kernel_rfl) (aS (fun _=>rfl) (fun _=>rfl) _) bW bC
theorem acH:bD Tryz.prog 212 Vq:=ed abV (by decide) fun x=>by kernel_rfl
def Zy (x0:List UInt8) (x1:Int) (x2:Int×(List ((List UInt8)×(Bool×Unit)))×(Bool×Unit)):Option ((Int×Int×Int×Bool×Unit)×(Int×(List ((List UInt8)×(Bool×Unit)))×(Bool×Unit))×Unit):=
 bif(fD x1 0)then
  bif((aH x2.1 x2.1)&&((dR (.pair .str (.pair .bool .unit)) x2.2.1 x2.2.1)&&((fF x2.2.2.1 x2.2.2.1)&&true)))then
   some ((0,(0,(0,(false,())))),((x2.1,(x2.2.1,(x2.2.2.1,()))),()))
  else
  none
 else
 bif(leI (ah x0) x1)then
  bif((aH x2.1 x2.1)&&((dR (.pair .str (.pair .bool .unit)) x2.2.1 x2.2.1)&&((fF x2.2.2.1 x2.2.2.1)&&true)))then
   some ((0,(0,(0,(false,())))),((x2.1,(x2.2.1,(x2.2.2.1,()))),()))
  else
  none
 else
 bif x2.2.2.1 then
  bif(fD 0 (ah x2.2.1))then
   ai (ag6 x0 x1 (x2.1,(x2.2.1,(x2.2.2.1,())))) fun y0=>
    some ((y0.1.1,(y0.1.2.1,(y0.1.2.2.1,(y0.1.2.2.2.1,())))),((y0.2.1.1,(y0.2.1.2.1,(y0.2.1.2.2.1,()))),()))
  else
  ai (Ur x0 x1) fun y0=>
   bif(bu (ah x0) y0.1.2.1 y0.1.2.2.1)then
    ai (RP (sub x0 y0.1.2.1 y0.1.2.2.1) y0.1.1 (x2.1,(x2.2.1,(x2.2.2.1,())))) fun y1=>
     bif((aH y0.1.1 y0.1.1)&&((aH y0.1.2.1 y0.1.2.1)&&((aH y0.1.2.2.1 y0.1.2.2.1)&&((fF y0.1.2.2.2.1 y0.1.2.2.2.1)&&true))))then
      bif(cO x0 x0)then
       bif(aH y0.1.2.1 y0.1.2.1)then
        bif(aH y0.1.2.2.1 y0.1.2.2.1)then
         bif(cO x0 x0)then
          bif(aH y0.1.2.1 y0.1.2.1)then
           bif(aH y0.1.2.2.1 y0.1.2.2.1)then
            bif(bu (ah x0) y0.1.2.1 y0.1.2.2.1)then
             bif(cO (sub x0 y0.1.2.1 y0.1.2.2.1) (sub x0 y0.1.2.1 y0.1.2.2.1))then
              bif(aH y0.1.1 y0.1.1)then
               bif((aH x2.1 x2.1)&&((dR (.pair .str (.pair .bool .unit)) x2.2.1 x2.2.1)&&((fF x2.2.2.1 x2.2.2.1)&&true)))then
                some ((y0.1.1,(y0.1.2.1,(y0.1.2.2.1,(y0.1.2.2.2.1,())))),((y1.1.1,(y1.1.2.1,(y1.1.2.2.1,()))),()))
               else
               none
              else
              none
             else
             none
            else
            none
           else
           none
          else
          none
         else
         none
        else
        none
       else
       none
      else
      none
     else
     none
   else
   none
 else
 ai (Ur x0 x1) fun y0=>
  bif(bu (ah x0) y0.1.2.1 y0.1.2.2.1)then
   ai (RP (sub x0 y0.1.2.1 y0.1.2.2.1) y0.1.1 (x2.1,(x2.2.1,(x2.2.2.1,())))) fun y1=>
    bif((aH y0.1.1 y0.1.1)&&((aH y0.1.2.1 y0.1.2.1)&&((aH y0.1.2.2.1 y0.1.2.2.1)&&((fF y0.1.2.2.2.1 y0.1.2.2.2.1)&&true))))then
     bif(cO x0 x0)then
      bif(aH y0.1.2.1 y0.1.2.1)then
       bif(aH y0.1.2.2.1 y0.1.2.2.1)then
        bif(cO x0 x0)then
         bif(aH y0.1.2.1 y0.1.2.1)then
          bif(aH y0.1.2.2.1 y0.1.2.2.1)then
           bif(bu (ah x0) y0.1.2.1 y0.1.2.2.1)then
            bif(cO (sub x0 y0.1.2.1 y0.1.2.2.1) (sub x0 y0.1.2.1 y0.1.2.2.1))then
             bif(aH y0.1.1 y0.1.1)then
              bif((aH x2.1 x2.1)&&((dR (.pair .str (.pair .bool .unit)) x2.2.1 x2.2.1)&&((fF x2.2.2.1 x2.2.2.1)&&true)))then
               some ((y0.1.1,(y0.1.2.1,(y0.1.2.2.1,(y0.1.2.2.2.1,())))),((y1.1.1,(y1.1.2.1,(y1.1.2.2.1,()))),()))
              else
              none
             else
             none
            else
            none
           else
           none
          else
          none
         else
         none
        else
        none
       else
       none
      else
      none
     else
     none
    else
    none
  else
  none
def XO:Sum:=(⟨[.str,.int .i64,.pair (.int .i64) (.pair (.list (.pair .str (.pair .bool .unit))) (.pair .bool .unit))],[(.pair (.int .i64) (.pair (.int .i64) (.pair (.int .i64) (.pair .bool .unit))),false),(.pair (.int .i64) (.pair (.list (.pair .str (.pair .bool .unit))) (.pair .bool .unit)),false)],fun x=>Zy x.1 x.2.1 x.2.2.1⟩:Sum)
noncomputable def alW:Env:=dH Tryz.prog tt 146 [(210,XR),(211,Wu),(212,Vq)] [] []
theorem aa0:bJ alW:=bz tok mixed bV (sg:=[(210,XR),(211,Wu),(212,Vq)]) (aC ⟨(acL),(aC ⟨(ade),(aC ⟨(acH),aN⟩)⟩)⟩) (fn:=Tryz.f146) (c:=(Tryz.f146.body).getD .skip) (by kernel_rfl) (by kernel_rfl) (aS (fun _=>rfl) (fun _=>rfl) _) bW bC
theorem abT:bD Tryz.prog 146 XO:=ed aa0 (by decide) fun x=>by kernel_rfl
noncomputable def b59:Code:=(Tryz.f59.body).getD .skip
noncomputable def BF:Code:=(Tryz.f183.body).getD .skip
noncomputable def LH:Code:=cA (cA (cB (cB (cB (BF)))))
def L6:dB:=⟨[0,1,3,4,5,184000003],[(100000501,.pair (.list .unit) (.pair .unit (.pair .str (.pair .bool .unit)))),(300000301,.pair (.list .unit) (.pair .unit (.pair .str (.pair .bool .unit))))],[],[],[],[]⟩
def amC:dB:=⟨[2,3,4,5],[],[],[],[],[]⟩
def anP:dB:=⟨[0,2,3,4,5],[],[],[],[],[]⟩
def XY:dB:=⟨[0,1,3,4],[],[],[],[],[]⟩
def yz:SQ:=⟨us [.yld 1700010,.ptr 2000001 0,.u,.ptr 3000003 0,.ptr 3000004 0,.v (.int .i64)] 18,[us [.u,.u,.nils,.ptr 1000003 0,.ptr 1000004 0,.ptr 1000005 0] 13,[.yld 1700010],[]],[.box 3000004 46 [.v (.int .i64),.v (.int .i64),.v (.int .i64),.v .bool],.box 3000003 91 [.v (.int .i64),.v (.list (.pair .str (.pair .bool .unit))),.v .bool],.box 2000001 9 [.v .str],.lp 1700010 59 (us [.u,.u,.nils,.ptr 1000003 0,.ptr 1000004 0,.ptr 1000005 0] 13) [10,11] 6 0 none,.arr 1500004 (.pair (.int .i64) (.pair (.int .i64) (.pair (.int .i64) (.pair .bool .unit)))),.box 1000005 91 [.v (.int .i64),.v (.list (.pair .str (.pair .bool .unit))),.v .bool],.box 1000004 42 [.slc 1500004],.box 1000003 91 [.v (.int .i64),.nils,.v .bool]]⟩
def zO:SQ:=⟨us [] 24,[us [.u,.u,.nils,.ptr 1000003 0,.ptr 1000004 0,.ptr 1000005 0] 13,[.yld 1700010],[]],[.box 2000001 9 [.v .str],.lp 1700010 59 (us [.u,.u,.nils,.ptr 1000003 0,.ptr 1000004 0,.ptr 1000005 0] 13) [10,11] 6 0 none,.arr 1500004 (.pair (.int .i64) (.pair (.int .i64) (.pair (.int .i64) (.pair .bool .unit)))),.box 1000005 91 [.v (.int .i64),.v (.list (.pair .str (.pair .bool .unit))),.v .bool],.box 1000004 42 [.slc 1500004],.box 1000003 91 [.v (.int .i64),.nils,.v .bool]]⟩
def zD:SQ:=⟨us [] 24,[us [.u,.u,.nils,.ptr 1000003 0,.ptr 1000004 0,.ptr 1000005 0] 13,[.yld 1700010],[]],[]⟩
def uP {γ:Type} (rec:Int->Int->Int->Int->Bool->Int->(List ((List UInt8)×(Bool×Unit)))->Bool->(List UInt8)->(List (Int×Int×Int×Bool×Unit))->Int->(List ((List UInt8)×(Bool×Unit)))->Bool->Int->Bool->Option γ) (kE:(List UInt8)->(List (Int×Int×Int×Bool×Unit))->Int->(List ((List UInt8)×(Bool×Unit)))->Bool->Int->Bool->Option γ) (kR:Option γ) (v0:Int) (v1:Int) (v2:Int) (v3:Int) (v4:Bool) (v5:Int) (v6:List ((List UInt8)×(Bool×Unit))) (v7:Bool) (v8:List UInt8) (v9:List (Int×Int×Int×Bool×Unit)) (v10:Int) (v11:List ((List UInt8)×(Bool×Unit))) (v12:Bool) (v13:Int) (v14:Bool):Option γ:=
 bif(fD v0 (ah v8))then
  ai (Zy v8 v0 (v5,(v6,(v7,())))) fun y0=>
   bif((aH y0.2.1.1 y0.2.1.1)&&((dR (.pair .str (.pair .bool .unit)) y0.2.1.2.1 y0.2.1.2.1)&&((fF y0.2.1.2.2.1 y0.2.1.2.2.1)&&true)))then
    bif(aZ (az v9 [(y0.1.1,(y0.1.2.1,(y0.1.2.2.1,(y0.1.2.2.2.1,()))))]) 32)then
     bif((aH y0.1.1 y0.1.1)&&((aH y0.1.2.1 y0.1.2.1)&&((aH y0.1.2.2.1 y0.1.2.2.1)&&((fF y0.1.2.2.2.1 y0.1.2.2.2.1)&&true))))then
      bif((aH y0.2.1.1 y0.2.1.1)&&((dR (.pair .str (.pair .bool .unit)) y0.2.1.2.1 y0.2.1.2.1)&&((fF y0.2.1.2.2.1 y0.2.1.2.2.1)&&true)))then
       bif((aH y0.2.1.1 y0.2.1.1)&&((dR (.pair .str (.pair .bool .unit)) y0.2.1.2.1 y0.2.1.2.1)&&((fF y0.2.1.2.2.1 y0.2.1.2.2.1)&&true)))then
        rec y0.1.2.2.1 y0.1.1 y0.1.2.1 y0.1.2.2.1 y0.1.2.2.2.1 y0.2.1.1 y0.2.1.2.1 y0.2.1.2.2.1 v8 (az v9 [(y0.1.1,(y0.1.2.1,(y0.1.2.2.1,(y0.1.2.2.2.1,()))))]) y0.2.1.1 y0.2.1.2.1 y0.2.1.2.2.1 v13 v14
       else
       none
      else
      none
     else
     none
    else
    none
   else
   none
 else
 kE v8 v9 v10 v11 v12 v13 v14
def lm:Nat->Int->Int->Int->Int->Bool->Int->(List ((List UInt8)×(Bool×Unit)))->Bool->(List UInt8)->(List (Int×Int×Int×Bool×Unit))->Int->(List ((List UInt8)×(Bool×Unit)))->Bool->Int->Bool->Option (zO.den⊕zD.den)
 |0,_,_,_,_,_,_,_,_,_,_,_,_,_,_,_=>none
 |n+1,v0,v1,v2,v3,v4,v5,v6,v7,v8,v9,v10,v11,v12,v13,v14=>uP (lm n) (fun e0 e1 e2 e3 e4 e5 e6=>some (.inl ((),((),(),(),()),((e0,()),(),e1,(e2,e3,e4,()),(),(e5,e6,()),())))) (some (.inr ((),((),(),(),()),()))) v0 v1 v2 v3 v4 v5 v6 v7 v8 v9 v10 v11 v12 v13 v14
noncomputable def Ha:bG:=gQ L6 yz zO zD (.exit 0) (fun v=>lm aO v.1.1 v.2.2.1.1 v.2.2.1.2.1 v.2.2.1.2.2.1 v.2.2.1.2.2.2.1 v.2.2.2.1.1 v.2.2.2.1.2.1 v.2.2.2.1.2.2.1 v.2.2.2.2.1.1 v.2.2.2.2.2.2.1 v.2.2.2.2.2.2.2.1.1 v.2.2.2.2.2.2.2.1.2.1 v.2.2.2.2.2.2.2.1.2.2.1 v.2.2.2.2.2.2.2.2.2.1.1 v.2.2.2.2.2.2.2.2.2.1.2.1) 6
def ail (x0:List UInt8):Option ((List (Int×Int×Int×Bool×Unit))×(Int×(List ((List UInt8)×(Bool×Unit)))×(Bool×Unit))×Unit):=
 ai (lm aO 0 0 0 0 false 0 [] false x0 [] 0 [] false 0 false) fun y0=>
  bF y0 (fun a1=>
   some (a1.2.2.2.2.1,((a1.2.2.2.2.2.1.1,(a1.2.2.2.2.2.1.2.1,(a1.2.2.2.2.2.1.2.2.1,()))),()))) (fun b1=>
   none)
def ahy:Sum:=(⟨[.str],[(.list (.pair (.int .i64) (.pair (.int .i64) (.pair (.int .i64) (.pair .bool .unit)))),false),(.pair (.int .i64) (.pair (.list (.pair .str (.pair .bool .unit))) (.pair .bool .unit)),false)],fun x=>ail x.1⟩:Sum)
noncomputable def ZE:Env:=fZ Tryz.prog tt [(146,XO)] [(183,3,L6),(59,500006,amC),(59,600003,anP),(183,600006,XY)] [(183,3,Ha)] [59]
def JV {γ:Type} (a:yz.den->Option γ) (b:zO.den->Option γ) (c:zD.den->Option γ) (v:yz.den):Option γ:=uP (fun v0 v1 v2 v3 v4 v5 v6 v7 v8 v9 v10 v11 v12 v13 v14=>a ((v0,()),((),(),(),()),((v1,v2,v3,v4,()),(v5,v6,v7,()),(v8,()),(),v9,(v10,v11,v12,()),(),(v13,v14,()),()))) (fun e0 e1 e2 e3 e4 e5 e6=>b ((),((),(),(),()),((e0,()),(),e1,(e2,e3,e4,()),(),(e5,e6,()),()))) (c ((),((),(),(),()),())) v.1.1 v.2.2.1.1 v.2.2.1.2.1 v.2.2.1.2.2.1 v.2.2.1.2.2.2.1 v.2.2.2.1.1 v.2.2.2.1.2.1 v.2.2.2.1.2.2.1 v.2.2.2.2.1.1 v.2.2.2.2.2.2.1 v.2.2.2.2.2.2.2.1.1 v.2.2.2.2.2.2.2.1.2.1 v.2.2.2.2.2.2.2.1.2.2.1 v.2.2.2.2.2.2.2.2.2.1.1 v.2.2.2.2.2.2.2.2.2.1.2.1
theorem Vy:di ZE 183 LH Ha:=Fv (JV) (lp:=fun n (v:yz.den)=>lm n v.1.1 v.2.2.1.1 v.2.2.1.2.1 v.2.2.1.2.2.1 v.2.2.1.2.2.2.1 v.2.2.2.1.1 v.2.2.2.1.2.1 v.2.2.2.1.2.2.1 v.2.2.2.2.1.1 v.2.2.2.2.2.2.1 v.2.2.2.2.2.2.2.1.1 v.2.2.2.2.2.2.2.1.2.1 v.2.2.2.2.2.2.2.1.2.2.1 v.2.2.2.2.2.2.2.2.2.1.1 v.2.2.2.2.2.2.2.2.2.1.2.1) (by kernel_rfl) (fun _=>rfl) (fun _ _=>rfl) (fun d n K v=>by kernel_rfl) (by intros;simp only[JV,uP,bg,bn,ae,aV,bi])
theorem arp:bZ b59=[]:=by kernel_rfl
theorem aqI:iJ b59=[(cA (cA (cB (cA (cB (cB (cB (b59))))))),cB (cA (cB (cA (cB (cB (cB (b59))))))))]:=by kernel_rfl
theorem asU:cZ ZE 59 b59:=qN b59 (by rw[aqI];exact(aC ⟨(fun _=>(show og 59 6=some (cA (cA (cB (cA (cB (cB (cB (b59))))))),cB (cA (cB (cA (cB (cB (cB (b59)))))))) by kernel_rfl)),aN⟩)) (by rw[arp];exact aN)
theorem adu:bZ BF=[LH]:=by kernel_rfl
theorem abL:cZ ZE 183 BF:=bP BF (fun _=>rfl) (by rw[adu];exact(aC ⟨fL (by kernel_rfl) (Vy),aN⟩))
theorem afE:bJ ZE:=dQ tok mixed bV (sg:=[(146,XO)]) (aC ⟨(abT),aN⟩) [59,183] (by kernel_rfl) (by kernel_rfl) (aC ⟨⟨Tryz.f59,b59,by kernel_rfl,by kernel_rfl,asU⟩,(aC ⟨⟨Tryz.f183,BF,by kernel_rfl,by kernel_rfl,abL⟩,aN⟩)⟩) bW bC
theorem afS:bD Tryz.prog 59 ahy:=ed afE (by decide) fun x=>by kernel_rfl
def Hl (x0:List UInt8) (x1:Int×Int×Int×Bool×Unit):Option ((List UInt8)×Unit):=
 bif(fD x1.2.1 0)then
  some ([],())
 else
 bif(fD x1.2.2.1 x1.2.1)then
  some ([],())
 else
 bif(fD (ah x0) x1.2.2.1)then
  some ([],())
 else
 bif(bu (ah x0) x1.2.1 x1.2.2.1)then
  some ((sub x0 x1.2.1 x1.2.2.1),())
 else
 none
def X8:Sum:=(⟨[.str,.pair (.int .i64) (.pair (.int .i64) (.pair (.int .i64) (.pair .bool .unit)))],[(.str,false)],fun x=>Hl x.1 x.2.1⟩:Sum)
noncomputable def ang:Env:=dH Tryz.prog tt 117 [] [] []
theorem abj:bJ ang:=bz tok mixed bV (sg:=[]) aN (fn:=Tryz.f117) (c:=(Tryz.f117.body).getD .skip) (by kernel_rfl) (by kernel_rfl) (aS (fun _=>rfl) (fun _=>rfl) _) bW bC
theorem aaz:bD Tryz.prog 117 X8:=ed abj (by decide) fun x=>by kernel_rfl
noncomputable def b60:Code:=(Tryz.f60.body).getD .skip
noncomputable def akr:Code:=cA (cA (cB (cA (cB (b60)))))
def ak4:dB:=⟨[0,4,7,8,9,100002],[(4,(.pair (.int .i64) (.pair .str (.pair (.int .i64) (.pair (.int .i64) .unit)))))],[4],[],[4],[(4,(.pair (.int .i64) (.pair .str (.pair (.int .i64) (.pair (.int .i64) .unit)))))]⟩
def Yt:SP:=⟨us [.v .str,.u,.u,.u,.slc 1800004,.u,.u,.v (.list (.pair (.int .i64) (.pair (.int .i64) (.pair (.int .i64) (.pair .bool .unit))))),.v (.int .i64),.v (.int .i64)] 42,[.arr 1800004 (.pair (.int .i64) (.pair .str (.pair (.int .i64) (.pair (.int .i64) .unit))))]⟩
def Xl:SP:=⟨us [.u,.u,.u,.u,.slc 1800004] 47,[.arr 1800004 (.pair (.int .i64) (.pair .str (.pair (.int .i64) (.pair (.int .i64) .unit))))]⟩
def Wy:SP:=⟨us [.u,.u,.u,.u,.v (.list (.pair (.int .i64) (.pair .str (.pair (.int .i64) (.pair (.int .i64) .unit)))))] 47,[]⟩
def Qb {γ:Type} (rec:(List UInt8)->(List (Int×Int×Int×Bool×Unit))->Int->Int->(List (Int×(List UInt8)×(Int×Int×Unit)))->Option γ) (kE:(List (Int×(List UInt8)×(Int×Int×Unit)))->Option γ) (kR:(List (Int×(List UInt8)×(Int×Int×Unit)))->Option γ) (v0:List UInt8) (v1:List (Int×Int×Int×Bool×Unit)) (v2:Int) (v3:Int) (v4:List (Int×(List UInt8)×(Int×Int×Unit))):Option γ:=
 bif(fD v3 v2)then
  bif(dX v1 v3)then
   bif(fD (af v1 (0,(0,(0,(false,())))) v3).2.1 0)then
    rec v0 v1 v2 (aG .i64 v3 1) v4
   else
   bif(fD (af v1 (0,(0,(0,(false,())))) v3).2.2.1 (af v1 (0,(0,(0,(false,())))) v3).2.1)then
    rec v0 v1 v2 (aG .i64 v3 1) v4
   else
   bif(fD (ah v0) (af v1 (0,(0,(0,(false,())))) v3).2.2.1)then
    rec v0 v1 v2 (aG .i64 v3 1) v4
   else
   bif(aH (af v1 (0,(0,(0,(false,())))) v3).1 4)then
    bif(aH (af v1 (0,(0,(0,(false,())))) v3).1 4)then
     ai (Hl v0 ((af v1 (0,(0,(0,(false,())))) v3).1,((af v1 (0,(0,(0,(false,())))) v3).2.1,((af v1 (0,(0,(0,(false,())))) v3).2.2.1,((af v1 (0,(0,(0,(false,())))) v3).2.2.2.1,()))))) fun y0=>
      bif(aH (af v1 (0,(0,(0,(false,())))) v3).1 (af v1 (0,(0,(0,(false,())))) v3).1)then
       bif(cO v0 v0)then
        bif((aH (af v1 (0,(0,(0,(false,())))) v3).1 (af v1 (0,(0,(0,(false,())))) v3).1)&&((aH (af v1 (0,(0,(0,(false,())))) v3).2.1 (af v1 (0,(0,(0,(false,())))) v3).2.1)&&((aH (af v1 (0,(0,(0,(false,())))) v3).2.2.1 (af v1 (0,(0,(0,(false,())))) v3).2.2.1)&&((fF (af v1 (0,(0,(0,(false,())))) v3).2.2.2.1 (af v1 (0,(0,(0,(false,())))) v3).2.2.2.1)&&true))))then
         bif(aH (af v1 (0,(0,(0,(false,())))) v3).2.1 (af v1 (0,(0,(0,(false,())))) v3).2.1)then
          bif(aH (af v1 (0,(0,(0,(false,())))) v3).2.2.1 (af v1 (0,(0,(0,(false,())))) v3).2.2.1)then
           bif(((cO v0 v0)&&(((aH (af v1 (0,(0,(0,(false,())))) v3).1 (af v1 (0,(0,(0,(false,())))) v3).1)&&((aH (af v1 (0,(0,(0,(false,())))) v3).2.1 (af v1 (0,(0,(0,(false,())))) v3).2.1)&&((aH (af v1 (0,(0,(0,(false,())))) v3).2.2.1 (af v1 (0,(0,(0,(false,())))) v3).2.2.1)&&((fF (af v1 (0,(0,(0,(false,())))) v3).2.2.2.1 (af v1 (0,(0,(0,(false,())))) v3).2.2.2.1)&&true))))&&true))&&((cO y0.1 y0.1)&&true))then
            bif(aZ (az v4 [((af v1 (0,(0,(0,(false,())))) v3).1,(y0.1,((af v1 (0,(0,(0,(false,())))) v3).2.1,((af v1 (0,(0,(0,(false,())))) v3).2.2.1,()))))]) 40)then
             bif(aH (af v1 (0,(0,(0,(false,())))) v3).1 (af v1 (0,(0,(0,(false,())))) v3).1)then
              bif(cO v0 v0)then
               bif((aH (af v1 (0,(0,(0,(false,())))) v3).1 (af v1 (0,(0,(0,(false,())))) v3).1)&&((aH (af v1 (0,(0,(0,(false,())))) v3).2.1 (af v1 (0,(0,(0,(false,())))) v3).2.1)&&((aH (af v1 (0,(0,(0,(false,())))) v3).2.2.1 (af v1 (0,(0,(0,(false,())))) v3).2.2.1)&&((fF (af v1 (0,(0,(0,(false,())))) v3).2.2.2.1 (af v1 (0,(0,(0,(false,())))) v3).2.2.2.1)&&true))))then
                bif(aH (af v1 (0,(0,(0,(false,())))) v3).2.1 (af v1 (0,(0,(0,(false,())))) v3).2.1)then
                 bif(aH (af v1 (0,(0,(0,(false,())))) v3).2.2.1 (af v1 (0,(0,(0,(false,())))) v3).2.2.1)then
                  bif((aH (af v1 (0,(0,(0,(false,())))) v3).1 (af v1 (0,(0,(0,(false,())))) v3).1)&&((cO y0.1 y0.1)&&((aH (af v1 (0,(0,(0,(false,())))) v3).2.1 (af v1 (0,(0,(0,(false,())))) v3).2.1)&&((aH (af v1 (0,(0,(0,(false,())))) v3).2.2.1 (af v1 (0,(0,(0,(false,())))) v3).2.2.1)&&true))))then
                   rec v0 v1 v2 (aG .i64 v3 1) (az v4 [((af v1 (0,(0,(0,(false,())))) v3).1,(y0.1,((af v1 (0,(0,(0,(false,())))) v3).2.1,((af v1 (0,(0,(0,(false,())))) v3).2.2.1,()))))])
                  else
                  none
                 else
                 none
                else
                none
               else
               none
              else
              none
             else
             none
            else
            none
           else
           none
          else
          none
         else
         none
        else
        none
       else
       none
      else
      none
    else
    rec v0 v1 v2 (aG .i64 v3 1) v4
   else
   bif(aH (af v1 (0,(0,(0,(false,())))) v3).1 5)then
    bif(aH (af v1 (0,(0,(0,(false,())))) v3).1 5)then
     ai (Hl v0 ((af v1 (0,(0,(0,(false,())))) v3).1,((af v1 (0,(0,(0,(false,())))) v3).2.1,((af v1 (0,(0,(0,(false,())))) v3).2.2.1,((af v1 (0,(0,(0,(false,())))) v3).2.2.2.1,()))))) fun y0=>
      bif(aH (af v1 (0,(0,(0,(false,())))) v3).1 (af v1 (0,(0,(0,(false,())))) v3).1)then
       bif(cO v0 v0)then
        bif((aH (af v1 (0,(0,(0,(false,())))) v3).1 (af v1 (0,(0,(0,(false,())))) v3).1)&&((aH (af v1 (0,(0,(0,(false,())))) v3).2.1 (af v1 (0,(0,(0,(false,())))) v3).2.1)&&((aH (af v1 (0,(0,(0,(false,())))) v3).2.2.1 (af v1 (0,(0,(0,(false,())))) v3).2.2.1)&&((fF (af v1 (0,(0,(0,(false,())))) v3).2.2.2.1 (af v1 (0,(0,(0,(false,())))) v3).2.2.2.1)&&true))))then
         bif(aH (af v1 (0,(0,(0,(false,())))) v3).2.1 (af v1 (0,(0,(0,(false,())))) v3).2.1)then
          bif(aH (af v1 (0,(0,(0,(false,())))) v3).2.2.1 (af v1 (0,(0,(0,(false,())))) v3).2.2.1)then
           bif(((cO v0 v0)&&(((aH (af v1 (0,(0,(0,(false,())))) v3).1 (af v1 (0,(0,(0,(false,())))) v3).1)&&((aH (af v1 (0,(0,(0,(false,())))) v3).2.1 (af v1 (0,(0,(0,(false,())))) v3).2.1)&&((aH (af v1 (0,(0,(0,(false,())))) v3).2.2.1 (af v1 (0,(0,(0,(false,())))) v3).2.2.1)&&((fF (af v1 (0,(0,(0,(false,())))) v3).2.2.2.1 (af v1 (0,(0,(0,(false,())))) v3).2.2.2.1)&&true))))&&true))&&((cO y0.1 y0.1)&&true))then
            bif(aZ (az v4 [((af v1 (0,(0,(0,(false,())))) v3).1,(y0.1,((af v1 (0,(0,(0,(false,())))) v3).2.1,((af v1 (0,(0,(0,(false,())))) v3).2.2.1,()))))]) 40)then
             bif(aH (af v1 (0,(0,(0,(false,())))) v3).1 (af v1 (0,(0,(0,(false,())))) v3).1)then
              bif(cO v0 v0)then
               bif((aH (af v1 (0,(0,(0,(false,())))) v3).1 (af v1 (0,(0,(0,(false,())))) v3).1)&&((aH (af v1 (0,(0,(0,(false,())))) v3).2.1 (af v1 (0,(0,(0,(false,())))) v3).2.1)&&((aH (af v1 (0,(0,(0,(false,())))) v3).2.2.1 (af v1 (0,(0,(0,(false,())))) v3).2.2.1)&&((fF (af v1 (0,(0,(0,(false,())))) v3).2.2.2.1 (af v1 (0,(0,(0,(false,())))) v3).2.2.2.1)&&true))))then
                bif(aH (af v1 (0,(0,(0,(false,())))) v3).2.1 (af v1 (0,(0,(0,(false,())))) v3).2.1)then
                 bif(aH (af v1 (0,(0,(0,(false,())))) v3).2.2.1 (af v1 (0,(0,(0,(false,())))) v3).2.2.1)then
                  bif((aH (af v1 (0,(0,(0,(false,())))) v3).1 (af v1 (0,(0,(0,(false,())))) v3).1)&&((cO y0.1 y0.1)&&((aH (af v1 (0,(0,(0,(false,())))) v3).2.1 (af v1 (0,(0,(0,(false,())))) v3).2.1)&&((aH (af v1 (0,(0,(0,(false,())))) v3).2.2.1 (af v1 (0,(0,(0,(false,())))) v3).2.2.1)&&true))))then
                   rec v0 v1 v2 (aG .i64 v3 1) (az v4 [((af v1 (0,(0,(0,(false,())))) v3).1,(y0.1,((af v1 (0,(0,(0,(false,())))) v3).2.1,((af v1 (0,(0,(0,(false,())))) v3).2.2.1,()))))])
                  else
                  none
                 else
                 none
                else
                none
               else
               none
              else
              none
             else
             none
            else
            none
           else
           none
          else
          none
         else
         none
        else
        none
       else
       none
      else
      none
    else
    rec v0 v1 v2 (aG .i64 v3 1) v4
   else
   bif(aH (af v1 (0,(0,(0,(false,())))) v3).1 6)then
    bif(aH (af v1 (0,(0,(0,(false,())))) v3).1 6)then
     ai (Hl v0 ((af v1 (0,(0,(0,(false,())))) v3).1,((af v1 (0,(0,(0,(false,())))) v3).2.1,((af v1 (0,(0,(0,(false,())))) v3).2.2.1,((af v1 (0,(0,(0,(false,())))) v3).2.2.2.1,()))))) fun y0=>
      bif(aH (af v1 (0,(0,(0,(false,())))) v3).1 (af v1 (0,(0,(0,(false,())))) v3).1)then
       bif(cO v0 v0)then
        bif((aH (af v1 (0,(0,(0,(false,())))) v3).1 (af v1 (0,(0,(0,(false,())))) v3).1)&&((aH (af v1 (0,(0,(0,(false,())))) v3).2.1 (af v1 (0,(0,(0,(false,())))) v3).2.1)&&((aH (af v1 (0,(0,(0,(false,())))) v3).2.2.1 (af v1 (0,(0,(0,(false,())))) v3).2.2.1)&&((fF (af v1 (0,(0,(0,(false,())))) v3).2.2.2.1 (af v1 (0,(0,(0,(false,())))) v3).2.2.2.1)&&true))))then
         bif(aH (af v1 (0,(0,(0,(false,())))) v3).2.1 (af v1 (0,(0,(0,(false,())))) v3).2.1)then
          bif(aH (af v1 (0,(0,(0,(false,())))) v3).2.2.1 (af v1 (0,(0,(0,(false,())))) v3).2.2.1)then
           bif(((cO v0 v0)&&(((aH (af v1 (0,(0,(0,(false,())))) v3).1 (af v1 (0,(0,(0,(false,())))) v3).1)&&((aH (af v1 (0,(0,(0,(false,())))) v3).2.1 (af v1 (0,(0,(0,(false,())))) v3).2.1)&&((aH (af v1 (0,(0,(0,(false,())))) v3).2.2.1 (af v1 (0,(0,(0,(false,())))) v3).2.2.1)&&((fF (af v1 (0,(0,(0,(false,())))) v3).2.2.2.1 (af v1 (0,(0,(0,(false,())))) v3).2.2.2.1)&&true))))&&true))&&((cO y0.1 y0.1)&&true))then
            bif(aZ (az v4 [((af v1 (0,(0,(0,(false,())))) v3).1,(y0.1,((af v1 (0,(0,(0,(false,())))) v3).2.1,((af v1 (0,(0,(0,(false,())))) v3).2.2.1,()))))]) 40)then
             bif(aH (af v1 (0,(0,(0,(false,())))) v3).1 (af v1 (0,(0,(0,(false,())))) v3).1)then
              bif(cO v0 v0)then
               bif((aH (af v1 (0,(0,(0,(false,())))) v3).1 (af v1 (0,(0,(0,(false,())))) v3).1)&&((aH (af v1 (0,(0,(0,(false,())))) v3).2.1 (af v1 (0,(0,(0,(false,())))) v3).2.1)&&((aH (af v1 (0,(0,(0,(false,())))) v3).2.2.1 (af v1 (0,(0,(0,(false,())))) v3).2.2.1)&&((fF (af v1 (0,(0,(0,(false,())))) v3).2.2.2.1 (af v1 (0,(0,(0,(false,())))) v3).2.2.2.1)&&true))))then
                bif(aH (af v1 (0,(0,(0,(false,())))) v3).2.1 (af v1 (0,(0,(0,(false,())))) v3).2.1)then
                 bif(aH (af v1 (0,(0,(0,(false,())))) v3).2.2.1 (af v1 (0,(0,(0,(false,())))) v3).2.2.1)then
                  bif((aH (af v1 (0,(0,(0,(false,())))) v3).1 (af v1 (0,(0,(0,(false,())))) v3).1)&&((cO y0.1 y0.1)&&((aH (af v1 (0,(0,(0,(false,())))) v3).2.1 (af v1 (0,(0,(0,(false,())))) v3).2.1)&&((aH (af v1 (0,(0,(0,(false,())))) v3).2.2.1 (af v1 (0,(0,(0,(false,())))) v3).2.2.1)&&true))))then
                   rec v0 v1 v2 (aG .i64 v3 1) (az v4 [((af v1 (0,(0,(0,(false,())))) v3).1,(y0.1,((af v1 (0,(0,(0,(false,())))) v3).2.1,((af v1 (0,(0,(0,(false,())))) v3).2.2.1,()))))])
                  else
                  none
                 else
                 none
                else
                none
               else
               none
              else
              none
             else
             none
            else
            none
           else
           none
          else
          none
         else
         none
        else
        none
       else
       none
      else
      none
    else
    rec v0 v1 v2 (aG .i64 v3 1) v4
   else
   bif(aH (af v1 (0,(0,(0,(false,())))) v3).1 2)then
    ai (Hl v0 ((af v1 (0,(0,(0,(false,())))) v3).1,((af v1 (0,(0,(0,(false,())))) v3).2.1,((af v1 (0,(0,(0,(false,())))) v3).2.2.1,((af v1 (0,(0,(0,(false,())))) v3).2.2.2.1,()))))) fun y0=>
     bif(aH (af v1 (0,(0,(0,(false,())))) v3).1 (af v1 (0,(0,(0,(false,())))) v3).1)then
      bif(cO v0 v0)then
       bif((aH (af v1 (0,(0,(0,(false,())))) v3).1 (af v1 (0,(0,(0,(false,())))) v3).1)&&((aH (af v1 (0,(0,(0,(false,())))) v3).2.1 (af v1 (0,(0,(0,(false,())))) v3).2.1)&&((aH (af v1 (0,(0,(0,(false,())))) v3).2.2.1 (af v1 (0,(0,(0,(false,())))) v3).2.2.1)&&((fF (af v1 (0,(0,(0,(false,())))) v3).2.2.2.1 (af v1 (0,(0,(0,(false,())))) v3).2.2.2.1)&&true))))then
        bif(aH (af v1 (0,(0,(0,(false,())))) v3).2.1 (af v1 (0,(0,(0,(false,())))) v3).2.1)then
         bif(aH (af v1 (0,(0,(0,(false,())))) v3).2.2.1 (af v1 (0,(0,(0,(false,())))) v3).2.2.1)then
          bif(((cO v0 v0)&&(((aH (af v1 (0,(0,(0,(false,())))) v3).1 (af v1 (0,(0,(0,(false,())))) v3).1)&&((aH (af v1 (0,(0,(0,(false,())))) v3).2.1 (af v1 (0,(0,(0,(false,())))) v3).2.1)&&((aH (af v1 (0,(0,(0,(false,())))) v3).2.2.1 (af v1 (0,(0,(0,(false,())))) v3).2.2.1)&&((fF (af v1 (0,(0,(0,(false,())))) v3).2.2.2.1 (af v1 (0,(0,(0,(false,())))) v3).2.2.2.1)&&true))))&&true))&&((cO y0.1 y0.1)&&true))then
           bif(aZ (az v4 [((af v1 (0,(0,(0,(false,())))) v3).1,(y0.1,((af v1 (0,(0,(0,(false,())))) v3).2.1,((af v1 (0,(0,(0,(false,())))) v3).2.2.1,()))))]) 40)then
            bif(aH (af v1 (0,(0,(0,(false,())))) v3).1 (af v1 (0,(0,(0,(false,())))) v3).1)then
             bif(cO v0 v0)then
              bif((aH (af v1 (0,(0,(0,(false,())))) v3).1 (af v1 (0,(0,(0,(false,())))) v3).1)&&((aH (af v1 (0,(0,(0,(false,())))) v3).2.1 (af v1 (0,(0,(0,(false,())))) v3).2.1)&&((aH (af v1 (0,(0,(0,(false,())))) v3).2.2.1 (af v1 (0,(0,(0,(false,())))) v3).2.2.1)&&((fF (af v1 (0,(0,(0,(false,())))) v3).2.2.2.1 (af v1 (0,(0,(0,(false,())))) v3).2.2.2.1)&&true))))then
               bif(aH (af v1 (0,(0,(0,(false,())))) v3).2.1 (af v1 (0,(0,(0,(false,())))) v3).2.1)then
                bif(aH (af v1 (0,(0,(0,(false,())))) v3).2.2.1 (af v1 (0,(0,(0,(false,())))) v3).2.2.1)then
                 bif((aH (af v1 (0,(0,(0,(false,())))) v3).1 (af v1 (0,(0,(0,(false,())))) v3).1)&&((cO y0.1 y0.1)&&((aH (af v1 (0,(0,(0,(false,())))) v3).2.1 (af v1 (0,(0,(0,(false,())))) v3).2.1)&&((aH (af v1 (0,(0,(0,(false,())))) v3).2.2.1 (af v1 (0,(0,(0,(false,())))) v3).2.2.1)&&true))))then
                  rec v0 v1 v2 (aG .i64 v3 1) (az v4 [((af v1 (0,(0,(0,(false,())))) v3).1,(y0.1,((af v1 (0,(0,(0,(false,())))) v3).2.1,((af v1 (0,(0,(0,(false,())))) v3).2.2.1,()))))])
                 else
                 none
                else
                none
               else
               none
              else
              none
             else
             none
            else
            none
           else
           none
          else
          none
         else
         none
        else
        none
       else
       none
      else
      none
     else
     none
   else
   rec v0 v1 v2 (aG .i64 v3 1) v4
  else
  none
 else
 kE v4
def uM:Nat->(List UInt8)->(List (Int×Int×Int×Bool×Unit))->Int->Int->(List (Int×(List UInt8)×(Int×Int×Unit)))->Option (Xl.den⊕Wy.den)
 |0,_,_,_,_,_=>none
 |n+1,v0,v1,v2,v3,v4=>Qb (uM n) (fun e0=>some (.inl ((),(e0,())))) (fun r0=>some (.inr ((r0,()),()))) v0 v1 v2 v3 v4
noncomputable def aeQ:bG:=dO ak4 Yt Xl Wy (.exit 0) (fun v=>uM aO v.1.1 v.1.2.1 v.1.2.2.1 v.1.2.2.2.1 v.2.1) 6
def anb (x0:List UInt8) (x1:List (Int×Int×Int×Bool×Unit)):Option ((List (Int×(List UInt8)×(Int×Int×Unit)))×Unit):=
 ai (uM aO x0 x1 (ah x1) 0 []) fun y0=>
  bF y0 (fun a1=>
   some (a1.2.1,())) (fun b1=>
   some (b1.1.1,()))
def arx:Sum:=(⟨[.str,.list (.pair (.int .i64) (.pair (.int .i64) (.pair (.int .i64) (.pair .bool .unit))))],[(.list (.pair (.int .i64) (.pair .str (.pair (.int .i64) (.pair (.int .i64) .unit)))),false)],fun x=>anb x.1 x.2.1⟩:Sum)
noncomputable def ahB:Env:=dH Tryz.prog tt 60 [(117,X8)] [(2,ak4)] [(2,aeQ)]
def agI {γ:Type} (a:Yt.den->Option γ) (b:Xl.den->Option γ) (c:Wy.den->Option γ) (v:Yt.den):Option γ:=Qb (fun v0 v1 v2 v3 v4=>a ((v0,v1,v2,v3,()),(v4,()))) (fun e0=>b ((),(e0,()))) (fun r0=>c ((r0,()),())) v.1.1 v.1.2.1 v.1.2.2.1 v.1.2.2.2.1 v.2.1
theorem am3:di ahB 60 akr aeQ:=wG (agI) (lp:=fun n (v:Yt.den)=>uM n v.1.1 v.1.2.1 v.1.2.2.1 v.1.2.2.2.1 v.2.1) (by kernel_rfl) (fun _=>rfl) (fun _ _=>rfl) (fun d n K v=>by kernel_rfl) (by intros;simp only[agI,Qb,bg,bn,ae,aV,bi])
theorem apy:bZ b60=[akr]:=by kernel_rfl
theorem apw:cZ ahB 60 b60:=bP b60 (fun _=>rfl) (by rw[apy];exact(aC ⟨fL (by kernel_rfl) (am3),aN⟩))
theorem adH:bJ ahB:=bz tok mixed bV (sg:=[(117,X8)]) (aC ⟨(aaz),aN⟩) (fn:=Tryz.f60) (c:=b60) (by kernel_rfl) (by kernel_rfl) (apw) bW bC
theorem ao0:bD Tryz.prog 60 arx:=ed adH (by decide) fun x=>by kernel_rfl
end Go.Proofs.YtihafdllichkeaaGreatDoor
namespace Go.Proofs.YtihafdllichkeaaGreatDoor
open Go.RowKit
set_option linter.unusedVariables false
set_option linter.unusedSimpArgs false
set_option maxRecDepth 100000
theorem YT (t:List UInt8):(ak t).length=t.length:=by simp[ak]
theorem Ar (t:List UInt8):ofBytes (ak t)=t:=by simp[ofBytes,ak,Function.comp_def]
theorem nz (a b:List UInt8):az (ak a) (ak b)=ak (a++b):=by simp[az,ak]
theorem atd:ak []=([]:List Int):=rfl
theorem Qu {s:List UInt8} {i:Int} (h0:0<=i) (h:i<s.length):[aI s i]=ak (sub s i (i+1)):=by
 obtain⟨n,rfl⟩:=Int.eq_ofNat_of_zero_le h0
 have hn:n<s.length:=by omega
 rw[show(n:Int)+1=((n+1:Nat):Int) by omega,uq,List.drop_eq_getElem_cons hn,List.take_succ_cons,List.take_zero,byte_at hn]
 rfl
theorem Zg (M:List (Int×Int)) (a b c:Int):ax (oK M a b) c=if c=a then b else ax M c:=by
 unfold ax
 induction M with
 |nil=>
  unfold oK wW
  by_cases h:c=a
  ·rw[aK (dJ h),if_pos h]
  ·rw[aU (bU h),if_neg h];rfl
 |cons e M ih=>
  obtain⟨k,v⟩:=e
  unfold oK
  by_cases h1:a=k
  ·rw[aK (dJ h1)]
   subst h1
   unfold wW
   by_cases h:c=a
   ·rw[aK (dJ h),if_pos h]
   ·rw[aU (bU h),if_neg h,aU (bU h)]
  ·rw[aU (bU h1)]
   unfold wW
   by_cases h:c=k
   ·rw[aK (dJ h),aK (dJ h),if_neg (by omega)]
   ·rw[aU (bU h),aU (bU h)];exact ih
def E5 (M:List (Int×Int)):Nat->List iO->List (Int×Int)
 |_,[]=>M
 |k,p::l=>E5 (oK M p.2.1 ((k+1:Nat):Int)) (k+1) l
theorem zT (c:Int): ∀(l:List iO) (M:List (Int×Int)) (k:Nat),l.Pairwise (fun p q=>p.2.1<q.2.1)->
  (pW l c=none/\ax (E5 M k l) c=ax M c)\/(∃p,pW l c=some p/\ ∃j,l[j]? =some p/\ax (E5 M k l) c=((k+j+1:Nat):Int))
 |[],M,k,_=>.inl ⟨rfl,rfl⟩
 |p::l,M,k,h=>by
  obtain⟨h1,h2⟩:=List.pairwise_cons.1 h
  have ih:=zT c l (oK M p.2.1 ((k+1:Nat):Int)) (k+1) h2
  rw[E5]
  unfold pW at*
  rw[List.find?_cons]
  by_cases e:p.2.1=c
  ·rw[show(p.2.1==c)=true by simpa using e]
   refine .inr ⟨p,rfl,0,rfl, ?_⟩
   rcases ih with ⟨i1,i2⟩|⟨q,i1,j,i2,i3⟩
   ·rw[i2,Zg,if_pos e.symm]
   ·have:=h1 q (List.mem_of_getElem? i2)
    have hq:=List.find?_some i1
    simp only[beq_iff_eq]at hq
    omega
  ·rw[show(p.2.1==c)=false by simpa using e]
   rcases ih with ⟨i1,i2⟩|⟨q,i1,j,i2,i3⟩
   ·exact .inl ⟨i1,by rw[i2,Zg,if_neg (fun h=>e h.symm)]⟩
   ·exact .inr ⟨q,i1,j+1,i2,by rw[i3];congr 1;omega⟩
def Gp (s:List UInt8):List (Int×Int):=E5 [] 0 (aJ s)
theorem Ue {s:List UInt8} {c:Int} (h:pW (aJ s) c=none):ax (Gp s) c=0:=by
 rcases zT c (aJ s) [] 0 (LW s)with ⟨_,h2⟩|⟨p,h1,_⟩
 ·exact h2
 ·rw[h]at h1;cases h1
theorem Uf {s:List UInt8} (hs:s.length<=10000) {c:Int} {p:iO} (h:pW (aJ s) c=some p):
  aH (ax (Gp s) c) 0=false/\dX (aJ s) (ag .i64 (ax (Gp s) c) 1)=true/\af (aJ s) (0,(0,(0,(0,(false,()))))) (ag .i64 (ax (Gp s) c) 1)=p:=by
 rcases zT c (aJ s) [] 0 (LW s)with ⟨h1,_⟩|⟨q,h1,j,h2,h3⟩
 ·rw[h]at h1;cases h1
 ·rw[h]at h1;cases h1
  obtain⟨hj,hv⟩:=List.getElem?_eq_some_iff.1 h2
  have hl:=uA s
  unfold Gp
  rw[h3,fU (by omega) (by omega),show((0+j+1:Nat):Int)-1=(j:Int) by omega]
  refine⟨bU (by omega),dw (by omega) (by omega), ?_⟩
  unfold af
  rw[Int.toNat_natCast,List.getD_eq_getElem?_getD,h2];rfl
theorem MQ (L:List iO) (hl:L.length<1000000) (a b c d:List UInt8) (e:List iO) (f:List Int): ∀(N k:Nat) (M:List (Int×Int)),L.length-k<N->k<=L.length->
  jV N L (ah L) (k:Int) a b c d e M f=some (.inl ((),((a,b,c,()),(),()),((d,e,()),E5 M k (L.drop k),(),f,())))
 |0,k,M,h,_=>by omega
 |N+1,k,M,h,hk=>by
  rw[jV,rW]
  by_cases e1:k<L.length
  ·have hg:af L (0,(0,(0,(0,(false,()))))) (k:Int)=L[k]:=by
    unfold af
    rw[Int.toNat_natCast,List.getD_eq_getElem?_getD,List.getElem?_eq_getElem e1];rfl
   rw[aK (dM (by rw[aB];omega)),aK (dw (by omega) (by omega)),hg,bI (by omega) (by omega),show(k:Int)+1=((k+1:Nat):Int) by omega,
    MQ L hl a b c d e f N (k+1) _ (by omega) (by omega),List.drop_eq_getElem_cons e1,E5]
  ·rw[aU (gp (by rw[aB];omega)),List.drop_of_length_le (by omega)];rfl
theorem ahY {p:iO} (h0:0<=p.2.1) (h1:p.2.1<1000000):Ru (p.1,(p.2.1,(p.2.2.1,(p.2.2.2.1,(p.2.2.2.2.1,())))))=some (lone p,()):=by
 rw[Ru,lone]
 simp only
 rw[bI (by omega) (by omega)]
 by_cases h:p.1=12
 ·rw[aK (dJ h)]
  by_cases h2:p.2.2.1=p.2.1+1
  ·rw[dJ h2];simp[h,h2]
  ·rw[bU h2];simp[h2]
 ·rw[aU (bU h)];simp[h]
theorem TL {s:List UInt8} (hs:s.length<=10000) {p:iO} (pf:PF s p) (h:p.1=4\/p.1=5):
  pY (p.1,(p.2.1,(p.2.2.1,(p.2.2.2.1,(p.2.2.2.2.1,())))))=some (p.2.1+1,(qC p,())):=by
 have h0:=pf.f0
 have h1:=pf.f1
 have h2:=pf.t0
 have h3:=pf.t1
 have h4:=pf.sh
 obtain⟨m,f,t,u,o,⟨⟩⟩:=p
 have hb:pY (m,(f,(t,(u,(o,())))))=bif o then some (aG .i64 f 1,(iM (ag .i64 t 0) (aG .i64 f 1),()))else some (aG .i64 f 1,(iM (ag .i64 t 1) (aG .i64 f 1),())):=by
  rcases h with h|h
  ·simp only at h;subst h;rfl
  ·simp only at h;subst h;rfl
 simp only at h0 h1 h2 h3 h4 h ⊢
 rw[hb]
 unfold qC iM
 cases o with
 |true=>rw[cond_true,bI (by omega) (by omega),fU (by omega) (by omega),Int.sub_zero,if_neg (by omega)];rfl
 |false=>
  have:=h4 rfl (by omega)
  rw[cond_false,bI (by omega) (by omega),fU (by omega) (by omega),if_neg (by omega)];rfl
theorem zk {a:List UInt8} (h:a.length<=140737488355328):aZ (ak a) 1=true:=mg (by rw[YT];omega)
theorem MZ (h:List UInt8):(h=[]/\ah (ak h)=0)\/(h≠[]/\0<ah (ak h)):=by
 rw[aB,YT]
 cases h with
 |nil=>exact .inl ⟨rfl,rfl⟩
 |cons a l=>refine .inr ⟨List.cons_ne_nil _ _, ?_⟩;rw[List.length_cons];omega
theorem DW (s:List UInt8) (hs:s.length<=10000) {to_:Int} (hto:to_<=s.length) (B:Int) (hB:B<=10000000000000) (w3:Int) (w4 w5:Bool) (w6:iO) (w7:List UInt8) (w9 w10 w11 w12:Int) (w13:Bool) (w14:List Int) (w18:List UInt8):
  ∀(N:Nat) (at_:Int) (ex:Bool) (h o:List UInt8),0<N->to_-at_<N->0<=at_->at_<=s.length->(o.length:Int)+h.length<=B+10000*at_->
  ∃ex' h' o',eP N to_ ex at_ w3 w4 w5 w6 w7 (ak h) w9 w10 w11 w12 w13 w14 s (aJ s) (Gp s) w18 (ak o)=
   some (.inl ((ex',()),((w3,w4,w5,w6,()),(w7,()),(),(),()),(ak h',(w9,w10,w11,w12,w13,()),w14,(),(),(s,aJ s,()),Gp s,(),(w18,()),ak o',(),())))/\
   o'++h'=o++h++mD s (aJ s) to_ N at_/\(o'.length:Int)+h'.length<=B+10000*s.length
 |0,at_,ex,h,o,hN,_,_,_,_=>by omega
 |N+1,at_,ex,h,o,hN,hlt,h0,h1,hh=>by
  rw[eP,qX,mD]
  by_cases e:at_<to_
  ·have hup:= @JR s at_
   have hsl:=Df s (aJ s) at_
   have keep: ∀(c:List UInt8) (nx:Int),c=(eY s (aJ s) at_).2.1->nx=(eY s (aJ s) at_).1->nx<=s.length->
     ∃ex' h' o',(bif aZ (ak (h++c)) 1 then eP N to_ ex nx w3 w4 w5 w6 w7 (ak (h++c)) w9 w10 w11 w12 w13 w14 s (aJ s) (Gp s) w18 (ak o)else none)=
      some (.inl ((ex',()),((w3,w4,w5,w6,()),(w7,()),(),(),()),(ak h',(w9,w10,w11,w12,w13,()),w14,(),(),(s,aJ s,()),Gp s,(),(w18,()),ak o',(),())))/\
      o'++h'=o++h++((eY s (aJ s) at_).2.1++mD s (aJ s) to_ N (eY s (aJ s) at_).1)/\(o'.length:Int)+h'.length<=B+10000*s.length:=by
    intro c nx hc hnx hle
    subst hc hnx
    rw[aK (zk (by rw[List.length_append];omega))]
    obtain⟨ex',h',o',r1,r2,r3⟩:=DW s hs hto B hB w3 w4 w5 w6 w7 w9 w10 w11 w12 w13 w14 w18 N (eY s (aJ s) at_).1 ex (h++(eY s (aJ s) at_).2.1) o (by omega) (by omega) (by omega) hle (by rw[List.length_append];omega)
    refine⟨ex',h',o',r1, ?_,r3⟩
    rw[r2]
    simp only[List.append_assoc]
   have push: ∀(l:List UInt8) (nx:Int),l=o++h++(eY s (aJ s) at_).2.1->nx=(eY s (aJ s) at_).1->nx<=s.length->
     ∃ex' h' o',(bif aZ (ak l) 1 then eP N to_ true nx w3 w4 w5 w6 w7 [] w9 w10 w11 w12 w13 w14 s (aJ s) (Gp s) w18 (ak l)else none)=
      some (.inl ((ex',()),((w3,w4,w5,w6,()),(w7,()),(),(),()),(ak h',(w9,w10,w11,w12,w13,()),w14,(),(),(s,aJ s,()),Gp s,(),(w18,()),ak o',(),())))/\
      o'++h'=o++h++((eY s (aJ s) at_).2.1++mD s (aJ s) to_ N (eY s (aJ s) at_).1)/\(o'.length:Int)+h'.length<=B+10000*s.length:=by
    intro l nx hl hnx hle
    subst hl hnx
    rw[aK (zk (by simp only[List.length_append];omega))]
    obtain⟨ex',h',o',r1,r2,r3⟩:=DW s hs hto B hB w3 w4 w5 w6 w7 w9 w10 w11 w12 w13 w14 w18 N (eY s (aJ s) at_).1 true [] (o++h++(eY s (aJ s) at_).2.1) (by omega) (by omega) (by omega) hle (by simp only[List.length_append,List.length_nil];omega)
    refine⟨ex',h',o',r1, ?_,r3⟩
    rw[r2]
    simp only[List.append_assoc,List.append_nil]
   have ha1:aG .i64 at_ 1=at_+1:=bI (by omega) (by omega)
   rw[aK (dM e),if_pos e]
   cases hf:pW (aJ s) at_ with
   |none=>
    have hst:eY s (aJ s) at_=(at_+1,sub s at_ (at_+1),false):=by unfold eY;rw[hf]
    rw[Ue hf,show aH 0 0=true from rfl,cond_true,aK (dw h0 (by omega)),Qu h0 (by omega),nz,ha1]
    exact keep _ _ (by rw[hst]) (by rw[hst]) (by omega)
   |some p=>
    obtain⟨pf,hpe⟩:=qA hf
    have t0:=pf.t0
    have t1:=pf.t1
    obtain⟨m1,m2,m3⟩:=Uf hs hf
    rw[m1,cond_false,m2,cond_true]
    simp only[m3]
    rw[ahY pf.f0 (by omega),ae]
    by_cases hlone:lone p=true
    ·have hst:eY s (aJ s) at_=(at_+1,sub s at_ (at_+1),false):=by unfold eY;rw[hf];simp only;rw[if_pos hlone]
     rw[hlone,cond_true,aK (dw h0 (by omega)),Qu h0 (by omega),nz,ha1]
     exact keep _ _ (by rw[hst]) (by rw[hst]) (by omega)
    ·rw[show lone p=false by simpa using hlone,cond_false]
     have hs2:ag .i64 p.2.2.1 p.2.1=p.2.2.1-p.2.1:=fU (by omega) (by omega)
     have ha2:aG .i64 p.2.1 1=p.2.1+1:=bI (by omega) (by omega)
     simp only[hs2,ha2,nz]
     by_cases h13:p.1=13
     ·have hes:=pf.es h13
      have hst:eY s (aJ s) at_=(p.2.2.1,Kr s p,false):=by unfold eY;rw[hf];simp only;rw[if_neg hlone,if_pos h13]
      rw[aK (dJ h13)]
      by_cases hto2:p.2.2.1=p.2.1+2
      ·rw[aU (iq (by omega)),aK (dw (by omega) (by omega))]
       have hesc:Kr s p=(if aI s (p.2.1+1)=36\/aI s (p.2.1+1)=96\/aI s (p.2.1+1)=34\/aI s (p.2.1+1)=92 then sub s (p.2.1+1) p.2.2.1
         else if aI s (p.2.1+1)=10 then []else jS s p):=by
        unfold Kr
        rw[if_pos hto2]
       have hone:ofBytes [aI s (p.2.1+1)]=sub s (p.2.1+1) p.2.2.1:=by
        rw[Qu (by omega) (by omega),Ar,show p.2.1+1+1=p.2.2.1 by omega]
       simp only[hone]
       by_cases b1:aI s (p.2.1+1)=36
       ·simp only[dJ b1,cond_true]
        exact keep _ _ (by rw[hst,hesc,if_pos (.inl b1)]) (by rw[hst]) (by omega)
       ·rw[aU (bU b1)]
        by_cases b2:aI s (p.2.1+1)=96
        ·simp only[dJ b2,cond_true]
         exact keep _ _ (by rw[hst,hesc,if_pos (.inr (.inl b2))]) (by rw[hst]) (by omega)
        ·rw[aU (bU b2)]
         by_cases b3:aI s (p.2.1+1)=34
         ·simp only[dJ b3,cond_true]
          exact keep _ _ (by rw[hst,hesc,if_pos (.inr (.inr (.inl b3)))]) (by rw[hst]) (by omega)
         ·rw[aU (bU b3)]
          by_cases b4:aI s (p.2.1+1)=92
          ·simp only[dJ b4,cond_true]
           exact keep _ _ (by rw[hst,hesc,if_pos (.inr (.inr (.inr b4)))]) (by rw[hst]) (by omega)
          ·rw[aU (bU b4)]
           have hno: ¬(aI s (p.2.1+1)=36\/aI s (p.2.1+1)=96\/aI s (p.2.1+1)=34\/aI s (p.2.1+1)=92):=by omega
           by_cases b5:aI s (p.2.1+1)=10
           ·rw[aK (dJ b5)]
            exact keep _ _ (by rw[hst,hesc,if_neg hno,if_pos b5]) (by rw[hst]) (by omega)
           ·rw[aU (bU b5),aK (dC pf.f0 (by omega) (by rw[aB];omega))]
            exact keep _ _ (by rw[hst,hesc,if_neg hno,if_neg b5];rfl) (by rw[hst]) (by omega)
      ·rw[aK (dM (by omega))]
       exact keep _ _ (by rw[hst];unfold Kr;rw[if_neg hto2]) (by rw[hst]) (by omega)
     ·have hst:eY s (aJ s) at_=(p.2.2.1,jS s p,true):=by unfold eY;rw[hf];simp only;rw[if_neg hlone,if_neg h13]
      rw[aU (bU h13)]
      have hpt:bu (ah s) p.2.1 p.2.2.1=true:=dC pf.f0 (by omega) (by rw[aB];omega)
      simp only[Ar,nz,hpt,cond_true]
      rcases MZ h with ⟨he,hl⟩|⟨he,hl⟩
      ·subst he
       rw[aU (iq (by omega))]
       exact push _ _ (by rw[hst,List.append_nil];rfl) (by rw[hst]) (by omega)
      ·rw[aK (dM hl),aK (zk (by rw[List.length_append];omega))]
       exact push _ _ (by rw[hst];rfl) (by rw[hst]) (by omega)
  ·rw[aU (gp e),if_neg e]
   exact⟨ex,h,o,rfl,by simp,by omega⟩
theorem HY (s:List UInt8) (hs:s.length<=10000) (w1 w6:List UInt8): ∀(N:Nat) (at_:Int) (h o:List UInt8),(s.length:Int)-at_<N->0<=at_->at_<=s.length->(o.length:Int)+h.length<=200000000*at_->
  ∃h' o',fQ N at_ w1 (ak h) s (aJ s) (Gp s) w6 (ak o)=
   some (.inl ((),((w1,()),(),(),()),(ak h',(),(),(s,aJ s,()),Gp s,(),(w6,()),ak o',(),())))/\
   o'++h'=o++h++jd s (aJ s) N at_/\(o'.length:Int)+h'.length<=200000000*s.length
 |0,at_,h,o,hN,_,_,_=>by omega
 |N+1,at_,h,o,hN,h0,h1,hh=>by
  rw[fQ,ry,jd]
  by_cases e:at_<s.length
  ·have hup:= @Ia s at_
   have hle:=UL (s:=s) e
   have hsl:(stepT s (aJ s) at_).2.length<=100010000:=by
    have h1:=Dj s (aJ s) at_
    have h2:s.length*s.length<=10000*10000:=Nat.mul_le_mul hs hs
    omega
   have go: ∀(g l:List UInt8) (nx:Int),l++g=o++h++(stepT s (aJ s) at_).2->nx=(stepT s (aJ s) at_).1->
     ∃h' o',fQ N nx w1 (ak g) s (aJ s) (Gp s) w6 (ak l)=
      some (.inl ((),((w1,()),(),(),()),(ak h',(),(),(s,aJ s,()),Gp s,(),(w6,()),ak o',(),())))/\
      o'++h'=o++h++((stepT s (aJ s) at_).2++jd s (aJ s) N (stepT s (aJ s) at_).1)/\(o'.length:Int)+h'.length<=200000000*s.length:=by
    intro g l nx hl hnx
    subst hnx
    have hlen:=congrArg List.length hl
    simp only[List.length_append]at hlen
    obtain⟨h',o',r1,r2,r3⟩:=HY s hs w1 w6 N (stepT s (aJ s) at_).1 g l (by omega) (by omega) hle (by omega)
    exact⟨h',o',r1,by rw[r2,hl];simp only[List.append_assoc],r3⟩
   have hb1: ∀x:List UInt8,x.length<=200000000->aZ (ak (h++x)) 1=true:=fun x hx=>zk (by rw[List.length_append];omega)
   have hb2: ∀x:List UInt8,x.length<=200000000->aZ (ak (o++x)) 1=true:=fun x hx=>zk (by rw[List.length_append];omega)
   have hb4:aZ (ak (o++h)) 1=true:=zk (by rw[List.length_append];omega)
   have hb3: ∀x:List UInt8,x.length<=200000000->aZ (ak (o++h++x)) 1=true:=fun x hx=>zk (by simp only[List.length_append];omega)
   have ha1:aG .i64 at_ 1=at_+1:=bI (by omega) (by omega)
   have hsub: ∀a b,(sub s a b).length<=200000000:=fun a b=>by have:=qg s a b;omega
   rw[aK (dM (b:=ah s) e),if_pos e]
   cases hf:pW (aJ s) at_ with
   |none=>
    have hst:stepT s (aJ s) at_=(at_+1,sub s at_ (at_+1)):=by unfold stepT;rw[hf]
    rw[Ue hf,show aH 0 0=true from rfl,cond_true]
    simp only[Qu h0 e,nz,dw h0 e,jF,eG,cond_true,ha1,hb1 _ (hsub _ _)]
    exact go _ _ _ (by rw[hst,List.append_assoc]) (by rw[hst])
   |some p=>
    obtain⟨pf,hpe⟩:=qA hf
    have t0:=pf.t0
    have t1:=pf.t1
    obtain⟨m1,m2,m3⟩:=Uf hs hf
    have hpt:bu (ah s) p.2.1 p.2.2.1=true:=dC pf.f0 (by omega) (by rw[aB];omega)
    have hpt1:bu (ah s) (p.2.1+1) p.2.2.1=true:=dC (by omega) (by omega) (by rw[aB];omega)
    have ha2:aG .i64 p.2.1 1=p.2.1+1:=bI (by omega) (by omega)
    rw[m1,cond_false,m2,cond_true]
    simp only[m3]
    rw[ahY pf.f0 (by omega),ae]
    simp only[ha2,hpt,hpt1,Ar,nz,cond_true,hb1 _ (hsub _ _),hb2 _ (hsub _ _),hb3 _ (hsub _ _),hb4]
    have flush: ∀(x:List UInt8),x.length<=200000000->x=(stepT s (aJ s) at_).2->p.2.2.1=(stepT s (aJ s) at_).1->
     ∃h' o',(bif cO h []then fQ N p.2.2.1 w1 [] s (aJ s) (Gp s) w6 (ak (o++x))
      else fQ N p.2.2.1 w1 [] s (aJ s) (Gp s) w6 (ak (o++h++x)))=
      some (.inl ((),((w1,()),(),(),()),(ak h',(),(),(s,aJ s,()),Gp s,(),(w6,()),ak o',(),())))/\
      o'++h'=o++h++((stepT s (aJ s) at_).2++jd s (aJ s) N (stepT s (aJ s) at_).1)/\(o'.length:Int)+h'.length<=200000000*s.length:=by
     intro x hx hxe hnx
     by_cases he:h=[]
     ·subst he
      rw[aK (by rfl)]
      exact go [] _ _ (by rw[<-hxe];simp) hnx
     ·rw[aU (by simpa [cO] using he)]
      exact go [] _ _ (by rw[<-hxe];simp) hnx
    by_cases hpl':lone p=true\/p.1=14
    ·have hst:stepT s (aJ s) at_=(p.2.2.1,jS s p):=by unfold stepT;rw[hf];simp only;rw[if_pos hpl']
     have:=go (h++sub s p.2.1 p.2.2.1) o p.2.2.1 (by rw[hst,List.append_assoc];rfl) (by rw[hst])
     by_cases hlone:lone p=true
     ·simp only[hlone,cond_true];exact this
     ·have h14:p.1=14:=hpl'.resolve_left hlone
      simp only[show lone p=false by simpa using hlone,h14,show aH 14 14=true from rfl,cond_true,cond_false];exact this
    ·have hlone:lone p=false:=by
      cases h:lone p with
      |true=>exact absurd (.inl h) hpl'
      |false=>rfl
     have h14:p.1≠14:=fun h=>hpl' (.inr h)
     simp only[hlone,bU h14,cond_false]
     by_cases h13:p.1=13
     ·have hes:=pf.es h13
      have hst:stepT s (aJ s) at_=(p.2.2.1,J8 s p):=by unfold stepT;rw[hf];simp only;rw[if_neg hpl',if_pos h13]
      simp only[dJ h13,bU (show p.1≠4 by omega),cond_true,cond_false]
      by_cases hto2:p.2.2.1=p.2.1+2
      ·have hone:sub s (p.2.1+1) p.2.2.1=[s.getD (p.2.1+1).toNat 0]:=by
        obtain⟨n,hn⟩:=Int.eq_ofNat_of_zero_le (show 0<=p.2.1+1 by omega)
        have hn2:n<s.length:=by omega
        rw[hn,show p.2.2.1=((n+1:Nat):Int) by omega,uq,List.drop_eq_getElem_cons hn2,List.take_succ_cons,List.take_zero,Int.toNat_natCast,List.getD_eq_getElem?_getD,List.getElem?_eq_getElem hn2]
        rfl
       have hne:cO (sub s (p.2.1+1) p.2.2.1) []=false:=by rw[hone];simp[cO]
       rw[hne,Bool.not_false,cond_true]
       by_cases b5:aI s (p.2.1+1)=10
       ·have:cO (sub s (p.2.1+1) p.2.2.1) [10]=true:=by
         rw[hone]
         unfold aI at b5
         have h10:s.getD (p.2.1+1).toNat 0=10:=UInt8.toNat_inj.1 (by show _=10;omega)
         rw[h10];rfl
        rw[this,Bool.not_true,cond_false]
        exact go h o _ (by rw[hst];unfold J8;rw[if_neg (by omega),List.append_nil]) (by rw[hst])
       ·have:cO (sub s (p.2.1+1) p.2.2.1) [10]=false:=by
         rw[hone]
         have hq:s.getD (p.2.1+1).toNat 0≠10:=fun h=>b5 (by unfold aI;rw[h];rfl)
         simpa [cO] using hq
        rw[this,Bool.not_false,cond_true]
        exact flush _ (hsub _ _) (by rw[hst];unfold J8;rw[if_pos ⟨hto2,b5⟩]) (by rw[hst])
      ·have hnil:sub s (p.2.1+1) p.2.2.1=[]:=by
        unfold sub
        rw[List.drop_of_length_le]
        rw[List.length_take];omega
       rw[hnil,show(!cO ([]:List UInt8) [])=false from rfl,cond_false]
       exact go h o _ (by rw[hst];unfold J8;rw[if_neg (by omega),List.append_nil]) (by rw[hst])
     ·simp only[bU h13,cond_false]
      by_cases h4:p.1=4
      ·have hst:stepT s (aJ s) at_=(p.2.2.1,sub s (p.2.1+1) (qC p)):=by unfold stepT;rw[hf];simp only;rw[if_neg hpl',if_neg h13,if_pos h4]
       have hen:p.2.1+1<=qC p/\qC p<=p.2.2.1:=by
        unfold qC
        by_cases ho:p.2.2.2.2.1=true
        ·rw[if_pos ho];omega
        ·rw[if_neg ho]
         have:=pf.sh (by simpa using ho) (by omega)
         omega
       simp only[dJ h4,cond_true]
       rw[TL hs pf (.inl h4),ae]
       simp only[dC (n:=ah s) (lo:=p.2.1+1) (hi:=qC p) (by omega) hen.1 (by rw[aB];omega),cond_true,hb2 _ (hsub _ _),hb3 _ (hsub _ _)]
       exact flush _ (hsub _ _) (by rw[hst]) (by rw[hst])
      ·simp only[bU h4,cond_false]
       by_cases h5:p.1=5
       ·have hst:stepT s (aJ s) at_=(p.2.2.1,mD s (aJ s) (qC p) s.length (p.2.1+1)):=by unfold stepT;rw[hf];simp only;rw[if_neg hpl',if_neg h13,if_neg h4,if_pos h5]
        have hen:p.2.1+1<=qC p/\qC p<=p.2.2.1:=by
         unfold qC
         by_cases ho:p.2.2.2.2.1=true
         ·rw[if_pos ho];omega
         ·rw[if_neg ho]
          have:=pf.sh (by simpa using ho) (by omega)
          omega
        simp only[dJ h5,cond_true,TL hs pf (.inr h5),ae]
        have dbl: ∀(q:List UInt8),q=o++h-> ∃ex' h' o',eP aO (qC p) false (p.2.1+1) p.2.2.1 true true (p.1,(p.2.1,(p.2.2.1,(p.2.2.2.1,(p.2.2.2.2.1,()))))) w1 [] p.1 p.2.1 p.2.2.1 p.2.2.2.1 p.2.2.2.2.1 (ak h) s (aJ s) (Gp s) w6 (ak q)=
          some (.inl ((ex',()),((p.2.2.1,true,true,(p.1,(p.2.1,(p.2.2.1,(p.2.2.2.1,(p.2.2.2.2.1,()))))),()),(w1,()),(),(),()),(ak h',(p.1,p.2.1,p.2.2.1,p.2.2.2.1,p.2.2.2.2.1,()),ak h,(),(),(s,aJ s,()),Gp s,(),(w6,()),ak o',(),())))/\
          o'++h'=o++h++(stepT s (aJ s) at_).2:=by
         intro q hq
         obtain⟨ex',h',o',r1,r2,r3⟩:=DW s hs (to_:=qC p) (by omega) 10000000000000 (by omega) p.2.2.1 true true (p.1,(p.2.1,(p.2.2.1,(p.2.2.2.1,(p.2.2.2.2.1,()))))) w1 p.1 p.2.1 p.2.2.1 p.2.2.2.1 p.2.2.2.2.1 (ak h) w6 aO (p.2.1+1) false [] q (by unfold aO;omega) (by have:=dh (n:=s.length) (by omega);omega) (by omega) (by omega) (by rw[hq];simp only[List.length_append,List.length_nil];omega)
         refine⟨ex',h',o',r1, ?_⟩
         rw[r2,hq,hst,List.append_nil,Ee s (qC p) aO s.length _ (by have:=dh (n:=s.length) (by omega);omega) (by omega)]
        have tail: ∀(ex':Bool) (h' o':List UInt8),o'++h'=o++h++(stepT s (aJ s) at_).2->
          ∃h'' o'',(bif aH (ah (ak h')) 0 then
            bif ex' then fQ N p.2.2.1 w1 [] s (aJ s) (Gp s) w6 (ak o')
            else bif aZ (ak (o'++h')) 1 then fQ N p.2.2.1 w1 [] s (aJ s) (Gp s) w6 (ak (o'++h'))else none
           else bif aZ (ak (o'++h')) 1 then fQ N p.2.2.1 w1 [] s (aJ s) (Gp s) w6 (ak (o'++h'))else none)=
           some (.inl ((),((w1,()),(),(),()),(ak h'',(),(),(s,aJ s,()),Gp s,(),(w6,()),ak o'',(),())))/\
           o''++h''=o++h++((stepT s (aJ s) at_).2++jd s (aJ s) N (stepT s (aJ s) at_).1)/\(o''.length:Int)+h''.length<=200000000*s.length:=by
         intro ex' h' o' ho
         have hlen:=congrArg List.length ho
         simp only[List.length_append]at hlen
         have hfit:aZ (ak (o'++h')) 1=true:=zk (by rw[List.length_append];omega)
         have g1:=go [] (o'++h') p.2.2.1 (by rw[List.append_nil];exact ho) (by rw[hst])
         rw[hfit,cond_true]
         rcases MZ h' with ⟨he,hl⟩|⟨he,hl⟩
         ·rw[aK (dJ hl)]
          rw[he,List.append_nil]at g1 ⊢
          cases ex'<;>exact g1
         ·rw[aU (bU (by omega))];exact g1
        by_cases he:h=[]
        ·rw[aK (by rw[he];rfl)]
         obtain⟨ex',h',o',r1,r2⟩:=dbl o (by rw[he,List.append_nil])
         rw[r1,ae]
         simp only[bF,cond_true,Ar,nz]
         exact tail ex' h' o' r2
        ·rw[aU (by simpa [cO] using he)]
         obtain⟨ex',h',o',r1,r2⟩:=dbl (o++h) rfl
         rw[r1,ae]
         simp only[bF,cond_true,Ar,nz]
         exact tail ex' h' o' r2
       ·have hst:stepT s (aJ s) at_=(p.2.2.1,jS s p):=by unfold stepT;rw[hf];simp only;rw[if_neg hpl',if_neg h13,if_neg h4,if_neg h5]
        simp only[bU h5,cond_false]
        exact flush _ (hsub _ _) (by rw[hst];rfl) (by rw[hst])
  ·rw[aU (gp (by rw[aB];omega)),if_neg e]
   exact⟨h,o,rfl,by simp,by omega⟩
theorem alO (s:List UInt8) (hs:s.length<=10000):Za s=some (BN s,()):=by
 have hl:=uA s
 rw[Za,atT s (by omega),ae]
 simp only
 have h1:=MQ (aJ s) (by omega) s [] s s (aJ s) [] aO 0 [] (dh (by omega)) (by omega)
 rw[show jV aO (aJ s) (ah (aJ s)) 0 s [] s s (aJ s) [] []=_ from h1,ae]
 simp only[bF,List.drop_zero]
 obtain⟨h',o',r1,r2,r3⟩:=HY s hs [] [] aO 0 [] [] (by have:=dh (n:=s.length) (by omega);omega) (by omega) (by omega) (by simp)
 rw[show fQ aO 0 [] [] s (aJ s) (E5 [] 0 (aJ s)) [] []=_ from r1,ae]
 have hm:jd s (aJ s) aO 0=BN s:=Az s _ _ _ (by have:=dh (n:=s.length) (by omega);omega) (by omega)
 rw[hm,List.nil_append,List.nil_append]at r2
 simp only[bF,Ar,nz,eG,cond_true]
 rw[aK (zk (by rw[List.length_append];omega)),r2]
 by_cases he:h'=[]
 ·rw[he,List.append_nil]at r2
  rw[aK (by rw[he];rfl),r2]
 ·rw[aU (by simpa [cO] using he)]
end Go.Proofs.YtihafdllichkeaaGreatDoor
namespace Go.Proofs.YtihafdllichkeaaGreatDoor
open Go.RowKit
set_option linter.unusedVariables false
set_option linter.unusedSimpArgs false
set_option maxRecDepth 100000
theorem YS {l:List Dlm} (h:l.length<=1000000):mJ l=some (l,()):=by
 unfold mJ pJ
 have:aZ l 24=true:=mg (by omega)
 rw[this];rfl
theorem abv {s:List UInt8} (hs:s.length<=10000) {a:Nat} (ha:a<s.length):KU s (a:Int)=some (((l7 s a:Nat):Int),()):=by
 rw[arH s (by omega) (by omega) (by omega),Int.toNat_natCast]
 unfold l7
 congr 2
theorem afa {s:List UInt8} {a:Nat} (ha:a<s.length):oH (s.drop a)≠0↔jJ (aI s a)=true\/oI (s.drop a)=true:=by
 rw[byte_at ha,List.drop_eq_getElem_cons ha,BQ]
 cases h:jJ (s[a].toNat:Int)with
 |true=>simp
 |false=>
  cases h2:oI (s[a]::s.drop (a+1))with
  |true=>simp
  |false=>simp
theorem ahe (t:List UInt8): ∀n,(Gg t n).2≠0->UZ (t.take (Gg t n).2)=(Gg t n).1
 |0,h=>absurd rfl h
 |n+1,h=>by
  rw[Gg]at h ⊢
  split
  ·rfl
  ·rename_i h1
   rw[if_neg h1]at h
   exact ahe t n h
theorem ae1 {s:List UInt8} (hs:s.length<=10000) {a:Nat} (ha:a<s.length):Ur s (a:Int)=some (iD s a,()):=by
 have hin:dX s (a:Int)=true:=dw (by omega) (by omega)
 obtain⟨k,h1,h2,h3⟩:=ak8 (jk s a)
 have hz:=afa ha
 rw[Ur,auu (by omega) ha,ae,aK hin,h1,ae]
 simp only[h2,hin,cond_true,ahc (show a<=s.length by omega),ae,ai1 (show s.length<1000000 by omega) (show a<=s.length by omega)]
 by_cases hb:oH (s.drop a)≠0
 ·have hpl:iD s a=(1,(a:Int),((a+oH (s.drop a):Nat):Int),false,()):=by unfold iD;rw[if_pos hb]
  rw[hpl]
  rcases hz.1 hb with h|h
  ·rw[h];rfl
  ·rw[h]
   cases jJ (aI s (a:Int))<;>rfl
 ·have h4:jJ (aI s (a:Int))=false:=by
   cases h:jJ (aI s (a:Int))with
   |false=>rfl
   |true=>exact absurd (hz.2 (.inl h)) hb
  have h5:oI (s.drop a)=false:=by
   cases h:oI (s.drop a)with
   |false=>rfl
   |true=>exact absurd (hz.2 (.inr h)) hb
  rw[h4,h5,cond_false,cond_false]
  unfold iD
  rw[if_neg hb]
  by_cases h10:aI s (a:Int)=10
  ·rw[aK (dJ h10),if_pos h10,bI (by omega) (by omega)];rfl
  ·rw[aU (bU h10),if_neg h10]
   by_cases h35:aI s (a:Int)=35
   ·rw[aK (dJ h35),if_pos h35,aeU (by omega) (by omega),ae]
   ·rw[aU (bU h35),if_neg h35]
    have ho:=(FQ (s.drop a)).1
    rw[List.length_drop]at ho
    by_cases hop:(vK (s.drop a)).2≠0
    ·rw[aK (dM (by omega)),if_pos hop]
     rw[bI (by omega) (by omega)];rfl
    ·rw[aU (iq (by omega)),if_neg hop,agq (by omega) (by omega),ae]
     by_cases hn:tu (s.drop a)≠0
     ·rw[aK (dM (by omega)),if_pos hn,ae]
     ·rw[aU (iq (by omega)),if_neg hn,abv hs ha,ae]
      have hw:=IW (s:=s) (a:=a) (by omega)
      have hc:=JB (s:=s) (a:=a) (b:=l7 s a)
      obtain⟨t,t1,t2⟩:=abm (P8 s a (l7 s a)) (by omega)
      simp only
      rw[aK (dC (by omega) (by omega) (by rw[aB];omega)),P5,t1,ae]
      simp only
      rw[t2];rfl
theorem afp {s:List UInt8} (hs:s.length<=10000) {a:Nat} (ha:a<s.length) {x:Uj} (hl:x.2.1.length<=100000):
  RP (sub s (iD s a).2.1 (iD s a).2.2.1) (iD s a).1 (x.1,(x.2.1,(x.2.2.1,())))=some (jf s a x,()):=by
 rw[RP]
 simp only[YS (show x.2.1.length<=1000000 by omega),ae]
 unfold iD jf
 by_cases hb:oH (s.drop a)≠0
 ·rw[if_pos hb,if_pos hb];rfl
 ·rw[if_neg hb,if_neg hb]
  by_cases h10:aI s (a:Int)=10
  ·have hlt:fD 0 (ah x.2.1)=decide (0<x.2.1.length):=by
    unfold fD ah
    rw[decide_eq_decide];omega
   rw[if_pos h10,if_pos h10,<-hlt];rfl
  ·rw[if_neg h10,if_neg h10]
   by_cases h35:aI s (a:Int)=35
   ·rw[if_pos h35,if_pos h35];rfl
   ·rw[if_neg h35,if_neg h35]
    by_cases hop:(vK (s.drop a)).2≠0
    ·rw[if_pos hop,if_pos hop]
     simp only
     rw[show aH 4 1=false from rfl,cond_false,show aH 4 2=false from rfl,cond_false,show aH 4 4=true from rfl,cond_true,uq,aea,ae]
     have:UZ ((s.drop a).take (vK (s.drop a)).2)=(vK (s.drop a)).1:=ahe _ _ hop
     rw[this]
     simp only
     by_cases h4:(vK (s.drop a)).1=4
     ·rw[aK (dJ (by omega)),if_pos (.inl h4)]
     ·rw[aU (bU (by omega))]
      by_cases h5:(vK (s.drop a)).1=5
      ·rw[aK (dJ (by omega)),if_pos (.inr h5)]
      ·rw[aU (bU (by omega)),if_neg (by omega)]
    ·rw[if_neg hop,if_neg hop]
     by_cases hn:tu (s.drop a)≠0
     ·rw[if_pos hn,if_pos hn];rfl
     ·rw[if_neg hn,if_neg hn]
      have hc:=JB (s:=s) (a:=a) (b:=l7 s a)
      simp only
      rw[show aH 6 1=false from rfl,cond_false,show aH 6 2=false from rfl,cond_false,show aH 6 4=false from rfl,cond_false,show aH 6 6=true from rfl,cond_true,P5]
      by_cases h0:x.1=0
      ·rw[dJ h0,if_pos h0];rfl
      ·have h5:aH x.1 5=decide (x.1=5):=rfl
       have hfit: ∀y,aZ (az x.2.1 [y]) 24=true:=fun y=>mg (by unfold az;simp only[List.length_append,List.length_singleton];omega)
       rw[bU h0,Bool.not_false,cond_true,if_neg h0,alO _ (by omega),ae]
       simp only[jF,eG,eX,hfit,cond_true,Bool.and_true]
       rfl
theorem alP {s:List UInt8} (hs:s.length<=10000) {a:Nat} (ha:a<s.length) (x:Uj) (hp:x.2.2.1=true->x.2.1≠[]) (hl:x.2.1.length<=100000):
  Zy s (a:Int) x=some ((ji s a x).1,((ji s a x).2,())):=by
 obtain⟨aw,pd,bd,u⟩:=x
 cases u
 simp only at hp hl
 rw[Zy,aU (iq (by omega)),aU (EO (by rw[aB];omega))]
 unfold ji
 cases bd with
 |true=>
  obtain⟨d,r,rfl⟩: ∃d r,pd=d::r:=by
   cases pd with
   |nil=>exact absurd rfl (hp rfl)
   |cons d r=>exact⟨d,r,rfl⟩
  simp only[cond_true,if_true]
  rw[aK (dM (by rw[aB];simp only[List.length_cons];omega)),ag6]
  simp only
  rw[aK (dw (by omega) (by simp only[List.length_cons];omega)),show af (d::r) ([],(false,())) 0=d from rfl,amj (by omega) d (by omega),ae]
  simp only[List.headD_cons]
  by_cases hh:(vY s d.1 d.2.1 a).2=true
  rotate_left
  ·rw[Bool.not_eq_true]at hh
   simp only[hh,Bool.false_eq_true,if_false,Bool.not_false,cond_true,eG,fB,eX,Bool.and_true,ae]
  ·have hsb:sub (d::r) 1 (ah (d::r))=r:=by simp[sub,aB]
   have hlt:fD 0 (ah r)=decide (1<(d::r).length):=by
    unfold fD ah
    rw[decide_eq_decide,List.length_cons];omega
   have hpt:bu (ah (d::r)) 1 (ah (d::r))=true:=dC (by omega) (by rw[aB];simp only[List.length_cons];omega) (by omega)
   rw[List.length_cons]at hl
   simp only[hh,if_true,Bool.not_true,cond_false,hpt,hsb,cond_true,YS (show r.length<=1000000 by omega),ae,eG,eX,Bool.and_true,hlt]
   rfl
 |false=>
  simp only[cond_false,Bool.false_eq_true,if_false]
  have ht:=xk hs ha (aw,(pd,(false,())))
  have hs1:ji s a (aw,(pd,(false,())))=(iD s a,jf s a (aw,(pd,(false,())))):=by unfold ji;rw[if_neg (by simp)]
  rw[hs1]at ht
  simp only at ht
  rw[ae1 hs ha,ae]
  simp only
  have hpt:bu (ah s) (iD s a).2.1 (iD s a).2.2.1=true:=dC (by omega) (by omega) (by rw[aB];omega)
  rw[hpt,cond_true,afp hs ha (x:=(aw,(pd,(false,())))) hl,ae]
  simp only[jF,eG,eX,fB,cond_true,Bool.and_true]
theorem Lc {s:List UInt8} (hs:s.length<=10000) (v13:Int) (v14:Bool): ∀(N a:Nat) (l:List Tok) (x:Uj) (t:Tok),s.length-a<N->a<=s.length->OkX x->x.2.1.length<=a->l.length<=a->
  lm N (a:Int) t.1 t.2.1 t.2.2.1 t.2.2.2.1 x.1 x.2.1 x.2.2.1 s l x.1 x.2.1 x.2.2.1 v13 v14=
   some (.inl ((),((),(),(),()),((s,()),(),(mF s N a l x).1,((mF s N a l x).2.1,(mF s N a l x).2.2.1,(mF s N a l x).2.2.2.1,()),(),(v13,v14,()),())))
 |0,a,l,x,t,h,_,_,_,_=>by omega
 |N+1,a,l,x,t,h,ha,hx,hp,hl=>by
  rw[lm,uP,mF]
  by_cases e:a<s.length
  ·have hto:=xk hs e x
   have hok:=JD s a hx
   have hx':(x.1,(x.2.1,(x.2.2.1,())))=x:=rfl
   rw[aK (dM (by rw[aB];omega)),hx',alP hs e x hx (by omega),ae,if_pos e]
   have hfit: ∀y,aZ (az l [y]) 32=true:=fun y=>mg (by unfold az;simp only[List.length_append,List.length_singleton];omega)
   simp only[hfit,eG,eX,fB,cond_true,Bool.and_true]
   obtain⟨b,hb⟩: ∃b:Nat,(ji s a x).1.2.2.1=(b:Int):=⟨(ji s a x).1.2.2.1.toNat,by omega⟩
   have ih:=Lc hs v13 v14 N b (l++[(ji s a x).1]) (ji s a x).2 (ji s a x).1 (by omega) (by omega) hok.1 (by omega) (by simp only[List.length_append,List.length_singleton];omega)
   rw[hb]at ih ⊢
   rw[Int.toNat_natCast,<-ih]
   rw[<-hb]
   rfl
  ·rw[aU (gp (by rw[aB];omega)),if_neg e]
theorem ar0 {s:List UInt8} (hs:s.length<=10000):ail s=some ((gX s).1,((gX s).2,())):=by
 have h:=Lc hs 0 false aO 0 [] (0,[],false,()) (0,0,0,false,()) (dh (by omega)) (by omega) (fun h=>by cases h) (by simp) (by simp)
 have hm:mF s aO 0 [] (0,[],false,())=gX s:=Dk hs _ _ _ _ _ (by have:=dh (n:=s.length) (by omega);omega) (by omega)
 rw[ail,show lm aO 0 0 0 0 false 0 [] false s [] 0 [] false 0 false=_ from h,ae,hm]
 rfl
end Go.Proofs.YtihafdllichkeaaGreatDoor
namespace Go.Proofs.YtihafdllichkeaaGreatDoor
open Go.RowKit
set_option linter.unusedVariables false
set_option linter.unusedSimpArgs false
set_option maxRecDepth 100000
theorem AV {s:List UInt8} (hs:s.length<=10000) (l:List Tok) (hl:l.length<=10000) (hok: ∀t∈l,OkT s t): ∀(N k:Nat),l.length-k<N->k<=l.length->
  uM N s l (ah l) (k:Int) (gJ s (l.take k))=some (.inl ((),(gJ s l,())))
 |0,k,h,_=>by omega
 |N+1,k,h,hk=>by
  rw[uM,Qb]
  by_cases e:k<l.length
  ·have hg:af l (0,(0,(0,(false,())))) (k:Int)=l[k]:=by
    unfold af
    rw[Int.toNat_natCast,List.getD_eq_getElem?_getD,List.getElem?_eq_getElem e];rfl
   have hin:dX l (k:Int)=true:=dw (by omega) (by omega)
   obtain⟨o1,o2,o3⟩:=hok _ (List.getElem_mem e)
   have hpt:bu (ah s) l[k].2.1 l[k].2.2.1=true:=dC o1 (by omega) (by rw[aB];omega)
   have hlen:(gJ s (l.take k)).length<=10000:=by
    unfold gJ
    rw[List.length_map]
    have:=List.length_filter_le Qp (l.take k)
    rw[List.length_take]at this;omega
   have hfit: ∀y,aZ (az (gJ s (l.take k)) [y]) 40=true:=fun y=>mg (by unfold az;simp only[List.length_append,List.length_singleton];omega)
   have ih:=AV hs l hl hok N (k+1) (by omega) (by omega)
   have hts:l.take (k+1)=l.take k++[l[k]]:=by rw[List.take_add_one,List.getElem?_eq_getElem e];rfl
   have hadd:aG .i64 (k:Int) 1=((k+1:Nat):Int):=by rw[bI (by omega) (by omega)];omega
   have t1:fD l[k].2.1 0=false:=iq (by omega)
   have t2:fD l[k].2.2.1 l[k].2.1=false:=iq (by omega)
   have t3:fD (ah s) l[k].2.2.1=false:=iq (by rw[aB];omega)
   have htx:Hl s (l[k].1,(l[k].2.1,(l[k].2.2.1,(l[k].2.2.2.1,()))))=some (sub s l[k].2.1 l[k].2.2.1,()):=by
    rw[Hl]
    simp only[t1,t2,t3,hpt,cond_true,cond_false]
   have yes:Qp l[k]=true->uM N s l (ah l) ((k+1:Nat):Int) (az (gJ s (l.take k)) [(l[k].1,(sub s l[k].2.1 l[k].2.2.1,(l[k].2.1,(l[k].2.2.1,()))))])=some (.inl ((),(gJ s l,()))):=fun hy=>by
    rw[<-ih]
    congr 1
    unfold gJ
    rw[hts,List.filter_append,List.map_append,List.filter_cons_of_pos hy]
    rfl
   have no:Qp l[k]=false->uM N s l (ah l) ((k+1:Nat):Int) (gJ s (l.take k))=some (.inl ((),(gJ s l,()))):=fun hy=>by
    rw[<-ih]
    congr 1
    unfold gJ
    rw[hts,List.filter_append,List.filter_cons_of_neg (by rw[hy];simp)]
    simp
   rw[aK (dM (by rw[aB];omega)),hin,cond_true]
   simp only[hg,t1,t2,t3,cond_false,hadd,htx,ae,eG,jF,eX,Bool.and_true,cond_true,hfit]
   unfold Qp at yes no
   by_cases h4:l[k].1=4
   ·simp only[dJ h4,cond_true];exact yes (by simp[h4])
   ·by_cases h5:l[k].1=5
    ·simp only[bU h4,dJ h5,cond_true,cond_false];exact yes (by simp[h5])
    ·by_cases h6:l[k].1=6
     ·simp only[bU h4,bU h5,dJ h6,cond_true,cond_false];exact yes (by simp[h6])
     ·by_cases h2:l[k].1=2
      ·simp only[bU h4,bU h5,bU h6,dJ h2,cond_true,cond_false];exact yes (by simp[h2])
      ·simp only[bU h4,bU h5,bU h6,bU h2,cond_true,cond_false];exact no (by simp[h2,h4,h5,h6])
  ·rw[aU (gp (by rw[aB];omega)),List.take_of_length_le (by omega)]
theorem ap2 {s:List UInt8} (hs:s.length<=10000):anb s (gX s).1=some (gJ s (gX s).1,()):=by
 obtain⟨h1,h2,h3⟩:=vX hs
 have h:=AV hs (gX s).1 (by omega) h1 aO 0 (dh (by omega)) (by omega)
 rw[anb,show uM aO s (gX s).1 (ah (gX s).1) 0 []=_ from h,ae]
 rfl
end Go.Proofs.YtihafdllichkeaaGreatDoor
namespace Go.Proofs.YtihafdllichkeaaGreatDoor
open Go.RowKit
set_option linter.unusedVariables false
set_option linter.unusedSimpArgs false
set_option maxRecDepth 100000
def iG (l:List Tok):Tok:=l.getLastD (0,(0,(0,(false,()))))
theorem aq2:iG []=(0,(0,(0,(false,())))):=rfl
theorem xI (r:List Tok) (t:Tok):iG (r++[t])=t:=by simp[iG]
theorem BA (r:List Tok) (t:Tok) (h:r.length<1000000):fD 0 (ah (r++[t]))=true/\dX (r++[t]) (ag .i64 (ah (r++[t])) 1)=true/\af (r++[t]) (0,(0,(0,(false,())))) (ag .i64 (ah (r++[t])) 1)=t:=by
 have hL:ag .i64 (ah (r++[t])) 1=(r.length:Int):=by
  rw[aB,fU (by simp only[List.length_append,List.length_singleton];omega) (by simp only[List.length_append,List.length_singleton];omega)]
  simp
 rw[hL]
 exact⟨dM (by rw[aB];simp only[List.length_append,List.length_singleton];omega),dw (by omega) (by simp only[List.length_append,List.length_singleton];omega),tK rfl⟩
theorem DT {u:List UInt8} (hu:u.length<=10000):(iG (gX u).1).1≠0->0<=(iG (gX u).1).2.1/\(iG (gX u).1).2.1<=u.length/\u≠[]:=by
 intro h
 rcases List.eq_nil_or_concat (gX u).1 with e|⟨r,t,e⟩
 ·rw[e]at h;exact absurd rfl h
 ·rw[List.concat_eq_append]at e
  have ho:=(vX hu).1 t (by rw[e];simp)
  rw[e,xI]
  have h1:=ho.f0
  have h2:=ho.ft
  have h3:=ho.t1
  refine⟨h1,by omega, ?_⟩
  rintro rfl
  simp only[List.length_nil]at h3
  omega
end Go.Proofs.YtihafdllichkeaaGreatDoor
namespace Go.Proofs.YtihafdllichkeaaGreatDoor
open Go.RowKit
set_option maxRecDepth 100000
set_option linter.unusedVariables false
set_option linter.unusedSimpArgs false
noncomputable def iQ (sg:FuncId->Option Sum):Env:={P:=Tryz.prog,T:=tt,cl:=true,kp:=fun _ _=>none,sg:=sg,lp:=fun _ _=>none,bf:=Bf}
theorem kK {sg:FuncId->Option Sum} (h: ∀g s,sg g=some s->bD Tryz.prog g s):bJ (iQ sg):=⟨tok,mixed,bV,h,fun f fn c _ _=>aS (fun _=>rfl) (fun _=>rfl) c,bW _ fun f fn c _ _=>aS (fun _=>rfl) (fun _=>rfl) c,bC,fun _ _ h=>by cases h⟩
theorem vZ {sg:FuncId->Option Sum} (h: ∀g s,sg g=some s->bD Tryz.prog g s) {f:FuncId} {s0:Sum} (h0:bD Tryz.prog f s0): ∀g s,(bif Nat.beq g f then some s0 else sg g)=some s->bD Tryz.prog g s:=fun g s e=>by
 rw[cond_eq_ite]at e
 split at e
 ·rename_i hg
  obtain rfl:g=f:=Nat.eq_of_beq_eq_true hg
  cases e
  exact h0
 ·exact h g s e
theorem aiG:ik (iQ sg1) 122 [(.int .u8)] [((.int .i64),false)] ((108,()):(Int×Unit))=some ((5,()):(Int×Unit)):=by kernel_rfl
theorem aiU:ik (iQ sg1) 122 [(.int .u8)] [((.int .i64),false)] ((115,()):(Int×Unit))=some ((5,()):(Int×Unit)):=by kernel_rfl
theorem aka:ik (iQ sg1) 122 [(.int .u8)] [((.int .i64),false)] ((32,()):(Int×Unit))=some ((1,()):(Int×Unit)):=by kernel_rfl
theorem ait:ik (iQ sg1) 122 [(.int .u8)] [((.int .i64),false)] ((34,()):(Int×Unit))=some ((4,()):(Int×Unit)):=by kernel_rfl
theorem aid:ik (iQ sg1) 122 [(.int .u8)] [((.int .i64),false)] ((97,()):(Int×Unit))=some ((5,()):(Int×Unit)):=by kernel_rfl
theorem ah7:ik (iQ sg1) 122 [(.int .u8)] [((.int .i64),false)] ((98,()):(Int×Unit))=some ((5,()):(Int×Unit)):=by kernel_rfl
def Pn (x:(Int×Unit)):Option (Int×Unit):=bif decide (x=(108,()))then some (5,())else bif decide (x=(115,()))then some (5,())else bif decide (x=(32,()))then some (1,())else bif decide (x=(34,()))then some (4,())else bif decide (x=(97,()))then some (5,())else bif decide (x=(98,()))then some (5,())else none
theorem Vs (x:(Int×Unit)) (y:(Int×Unit)) (h:Pn x=some y):ik (iQ sg1) 122 [(.int .u8)] [((.int .i64),false)] x=some y:=by
 unfold Pn at h
 rw[cond_eq_ite]at h
 split at h
 ·rename_i he
  have e:=of_decide_eq_true he
  subst e
  cases h
  exact aiG
 rw[cond_eq_ite]at h
 split at h
 ·rename_i he
  have e:=of_decide_eq_true he
  subst e
  cases h
  exact aiU
 rw[cond_eq_ite]at h
 split at h
 ·rename_i he
  have e:=of_decide_eq_true he
  subst e
  cases h
  exact aka
 rw[cond_eq_ite]at h
 split at h
 ·rename_i he
  have e:=of_decide_eq_true he
  subst e
  cases h
  exact ait
 rw[cond_eq_ite]at h
 split at h
 ·rename_i he
  have e:=of_decide_eq_true he
  subst e
  cases h
  exact aid
 rw[cond_eq_ite]at h
 split at h
 ·rename_i he
  have e:=of_decide_eq_true he
  subst e
  cases h
  exact ah7
 cases h
theorem Xt:bD Tryz.prog 122 ⟨[(.int .u8)],[((.int .i64),false)],Pn⟩:=gy (kK VA) (by decide) fun x y h=>Vs x y h
noncomputable def uV (g:FuncId):Option Sum:=bif Nat.beq g 122 then some ⟨[(.int .u8)],[((.int .i64),false)],Pn⟩else sg1 g
theorem KN: ∀g s,uV g=some s->bD Tryz.prog g s:=vZ VA Xt
theorem ake:ik (iQ uV) 285 [(.int .u8)] [(.bool,false)] ((108,()):(Int×Unit))=some ((false,()):(Bool×Unit)):=by kernel_rfl
theorem ajt:ik (iQ uV) 285 [(.int .u8)] [(.bool,false)] ((115,()):(Int×Unit))=some ((false,()):(Bool×Unit)):=by kernel_rfl
theorem aiE:ik (iQ uV) 285 [(.int .u8)] [(.bool,false)] ((32,()):(Int×Unit))=some ((true,()):(Bool×Unit)):=by kernel_rfl
theorem ajr:ik (iQ uV) 285 [(.int .u8)] [(.bool,false)] ((34,()):(Int×Unit))=some ((false,()):(Bool×Unit)):=by kernel_rfl
theorem aie:ik (iQ uV) 285 [(.int .u8)] [(.bool,false)] ((97,()):(Int×Unit))=some ((false,()):(Bool×Unit)):=by kernel_rfl
theorem ajO:ik (iQ uV) 285 [(.int .u8)] [(.bool,false)] ((98,()):(Int×Unit))=some ((false,()):(Bool×Unit)):=by kernel_rfl
def Ol (x:(Int×Unit)):Option (Bool×Unit):=bif decide (x=(108,()))then some (false,())else bif decide (x=(115,()))then some (false,())else bif decide (x=(32,()))then some (true,())else bif decide (x=(34,()))then some (false,())else bif decide (x=(97,()))then some (false,())else bif decide (x=(98,()))then some (false,())else none
theorem WB (x:(Int×Unit)) (y:(Bool×Unit)) (h:Ol x=some y):ik (iQ uV) 285 [(.int .u8)] [(.bool,false)] x=some y:=by
 unfold Ol at h
 rw[cond_eq_ite]at h
 split at h
 ·rename_i he
  have e:=of_decide_eq_true he
  subst e
  cases h
  exact ake
 rw[cond_eq_ite]at h
 split at h
 ·rename_i he
  have e:=of_decide_eq_true he
  subst e
  cases h
  exact ajt
 rw[cond_eq_ite]at h
 split at h
 ·rename_i he
  have e:=of_decide_eq_true he
  subst e
  cases h
  exact aiE
 rw[cond_eq_ite]at h
 split at h
 ·rename_i he
  have e:=of_decide_eq_true he
  subst e
  cases h
  exact ajr
 rw[cond_eq_ite]at h
 split at h
 ·rename_i he
  have e:=of_decide_eq_true he
  subst e
  cases h
  exact aie
 rw[cond_eq_ite]at h
 split at h
 ·rename_i he
  have e:=of_decide_eq_true he
  subst e
  cases h
  exact ajO
 cases h
theorem WS:bD Tryz.prog 285 ⟨[(.int .u8)],[(.bool,false)],Ol⟩:=gy (kK KN) (by decide) fun x y h=>WB x y h
noncomputable def JW (g:FuncId):Option Sum:=bif Nat.beq g 285 then some ⟨[(.int .u8)],[(.bool,false)],Ol⟩else uV g
theorem MS: ∀g s,JW g=some s->bD Tryz.prog g s:=vZ KN WS
theorem aj3:ik (iQ JW) 321 [.str] [((.int .u8),false)] (([108,115],()):((List UInt8)×Unit))=some ((120,()):(Int×Unit)):=by kernel_rfl
theorem aiF:ik (iQ JW) 321 [.str] [((.int .u8),false)] (([95],()):((List UInt8)×Unit))=some ((120,()):(Int×Unit)):=by kernel_rfl
def O3 (x:((List UInt8)×Unit)):Option (Int×Unit):=bif decide (x=([108,115],()))then some (120,())else bif decide (x=([95],()))then some (120,())else none
theorem Wh (x:((List UInt8)×Unit)) (y:(Int×Unit)) (h:O3 x=some y):ik (iQ JW) 321 [.str] [((.int .u8),false)] x=some y:=by
 unfold O3 at h
 rw[cond_eq_ite]at h
 split at h
 ·rename_i he
  have e:=of_decide_eq_true he
  subst e
  cases h
  exact aj3
 rw[cond_eq_ite]at h
 split at h
 ·rename_i he
  have e:=of_decide_eq_true he
  subst e
  cases h
  exact aiF
 cases h
theorem WG:bD Tryz.prog 321 ⟨[.str],[((.int .u8),false)],O3⟩:=gy (kK MS) (by decide) fun x y h=>Wh x y h
noncomputable def Iy (g:FuncId):Option Sum:=bif Nat.beq g 321 then some ⟨[.str],[((.int .u8),false)],O3⟩else JW g
theorem L8: ∀g s,Iy g=some s->bD Tryz.prog g s:=vZ MS WG
theorem aiv:ik (iQ Iy) 293 [(.pair (.int .i64) (.pair .str (.pair (.int .i64) (.pair (.int .i64) .unit))))] [((.int .u8),false)] (((6,([108,115],(0,(2,())))),()):((Int×((List UInt8)×(Int×(Int×Unit))))×Unit))=some ((120,()):(Int×Unit)):=by kernel_rfl
theorem ajK:ik (iQ Iy) 293 [(.pair (.int .i64) (.pair .str (.pair (.int .i64) (.pair (.int .i64) .unit))))] [((.int .u8),false)] (((6,([95],(0,(0,())))),()):((Int×((List UInt8)×(Int×(Int×Unit))))×Unit))=some ((120,()):(Int×Unit)):=by kernel_rfl
def Q9 (x:((Int×((List UInt8)×(Int×(Int×Unit))))×Unit)):Option (Int×Unit):=bif decide (x=((6,([108,115],(0,(2,())))),()))then some (120,())else bif decide (x=((6,([95],(0,(0,())))),()))then some (120,())else none
theorem Vf (x:((Int×((List UInt8)×(Int×(Int×Unit))))×Unit)) (y:(Int×Unit)) (h:Q9 x=some y):ik (iQ Iy) 293 [(.pair (.int .i64) (.pair .str (.pair (.int .i64) (.pair (.int .i64) .unit))))] [((.int .u8),false)] x=some y:=by
 unfold Q9 at h
 rw[cond_eq_ite]at h
 split at h
 ·rename_i he
  have e:=of_decide_eq_true he
  subst e
  cases h
  exact aiv
 rw[cond_eq_ite]at h
 split at h
 ·rename_i he
  have e:=of_decide_eq_true he
  subst e
  cases h
  exact ajK
 cases h
theorem Ya:bD Tryz.prog 293 ⟨[(.pair (.int .i64) (.pair .str (.pair (.int .i64) (.pair (.int .i64) .unit))))],[((.int .u8),false)],Q9⟩:=gy (kK L8) (by decide) fun x y h=>Vf x y h
noncomputable def GL (g:FuncId):Option Sum:=bif Nat.beq g 293 then some ⟨[(.pair (.int .i64) (.pair .str (.pair (.int .i64) (.pair (.int .i64) .unit))))],[((.int .u8),false)],Q9⟩else Iy g
theorem MM: ∀g s,GL g=some s->bD Tryz.prog g s:=vZ L8 Ya
theorem amJ:ik (iQ GL) 48 [.str] [((.list (.pair (.int .i64) (.pair (.int .i64) .unit))),false),(.bool,false)] (([108,115],()):((List UInt8)×Unit))=some (([(0,(0,()))],(false,())):((List (Int×(Int×Unit)))×Bool×Unit)):=by kernel_rfl
theorem ani:ik (iQ GL) 48 [.str] [((.list (.pair (.int .i64) (.pair (.int .i64) .unit))),false),(.bool,false)] (([34,97,32,98],()):((List UInt8)×Unit))=some (([(0,(0,())),(5,(0,()))],(false,())):((List (Int×(Int×Unit)))×Bool×Unit)):=by kernel_rfl
def ZF (x:((List UInt8)×Unit)):Option ((List (Int×(Int×Unit)))×Bool×Unit):=bif decide (x=([108,115],()))then some ([(0,(0,()))],(false,()))else bif decide (x=([34,97,32,98],()))then some ([(0,(0,())),(5,(0,()))],(false,()))else none
theorem aco (x:((List UInt8)×Unit)) (y:((List (Int×(Int×Unit)))×Bool×Unit)) (h:ZF x=some y):ik (iQ GL) 48 [.str] [((.list (.pair (.int .i64) (.pair (.int .i64) .unit))),false),(.bool,false)] x=some y:=by
 unfold ZF at h
 rw[cond_eq_ite]at h
 split at h
 ·rename_i he
  have e:=of_decide_eq_true he
  subst e
  cases h
  exact amJ
 rw[cond_eq_ite]at h
 split at h
 ·rename_i he
  have e:=of_decide_eq_true he
  subst e
  cases h
  exact ani
 cases h
theorem acn:bD Tryz.prog 48 ⟨[.str],[((.list (.pair (.int .i64) (.pair (.int .i64) .unit))),false),(.bool,false)],ZF⟩:=gy (kK MM) (by decide) fun x y h=>aco x y h
noncomputable def UH (g:FuncId):Option Sum:=bif Nat.beq g 48 then some ⟨[.str],[((.list (.pair (.int .i64) (.pair (.int .i64) .unit))),false),(.bool,false)],ZF⟩else GL g
theorem Us: ∀g s,UH g=some s->bD Tryz.prog g s:=vZ MM acn
theorem ajj:ik (iQ UH) 268 [.str,(.int .i64)] [((.int .i64),false)] (([108,115,32,34,97,32,98],(0,())):((List UInt8)×Int×Unit))=some ((2,()):(Int×Unit)):=by kernel_rfl
theorem ajS:ik (iQ UH) 268 [.str,(.int .i64)] [((.int .i64),false)] (([108,115,32,34,97,32,98],(3,())):((List UInt8)×Int×Unit))=some ((7,()):(Int×Unit)):=by kernel_rfl
def OY (x:((List UInt8)×Int×Unit)):Option (Int×Unit):=bif decide (x=([108,115,32,34,97,32,98],(0,())))then some (2,())else bif decide (x=([108,115,32,34,97,32,98],(3,())))then some (7,())else none
theorem Vz (x:((List UInt8)×Int×Unit)) (y:(Int×Unit)) (h:OY x=some y):ik (iQ UH) 268 [.str,(.int .i64)] [((.int .i64),false)] x=some y:=by
 unfold OY at h
 rw[cond_eq_ite]at h
 split at h
 ·rename_i he
  have e:=of_decide_eq_true he
  subst e
  cases h
  exact ajj
 rw[cond_eq_ite]at h
 split at h
 ·rename_i he
  have e:=of_decide_eq_true he
  subst e
  cases h
  exact ajS
 cases h
theorem U4:bD Tryz.prog 268 ⟨[.str,(.int .i64)],[((.int .i64),false)],OY⟩:=gy (kK Us) (by decide) fun x y h=>Vz x y h
noncomputable def I7 (g:FuncId):Option Sum:=bif Nat.beq g 268 then some ⟨[.str,(.int .i64)],[((.int .i64),false)],OY⟩else UH g
theorem Na: ∀g s,I7 g=some s->bD Tryz.prog g s:=vZ Us U4
theorem aic:ik (iQ I7) 269 [.str] [(.str,false)] (([108,115],()):((List UInt8)×Unit))=some (([],()):((List UInt8)×Unit)):=by kernel_rfl
theorem aja:ik (iQ I7) 269 [.str] [(.str,false)] (([34,97,32,98],()):((List UInt8)×Unit))=some (([34],()):((List UInt8)×Unit)):=by kernel_rfl
def OL (x:((List UInt8)×Unit)):Option ((List UInt8)×Unit):=bif decide (x=([108,115],()))then some ([],())else bif decide (x=([34,97,32,98],()))then some ([34],())else none
theorem U2 (x:((List UInt8)×Unit)) (y:((List UInt8)×Unit)) (h:OL x=some y):ik (iQ I7) 269 [.str] [(.str,false)] x=some y:=by
 unfold OL at h
 rw[cond_eq_ite]at h
 split at h
 ·rename_i he
  have e:=of_decide_eq_true he
  subst e
  cases h
  exact aic
 rw[cond_eq_ite]at h
 split at h
 ·rename_i he
  have e:=of_decide_eq_true he
  subst e
  cases h
  exact aja
 cases h
theorem U0:bD Tryz.prog 269 ⟨[.str],[(.str,false)],OL⟩:=gy (kK Na) (by decide) fun x y h=>U2 x y h
noncomputable def Ed (g:FuncId):Option Sum:=bif Nat.beq g 269 then some ⟨[.str],[(.str,false)],OL⟩else I7 g
theorem MO: ∀g s,Ed g=some s->bD Tryz.prog g s:=vZ Na U0
theorem ai9:ik (iQ Ed) 211 [.str,(.int .i64)] [((.pair (.int .i64) (.pair (.int .i64) (.pair (.int .i64) (.pair .bool .unit)))),false)] (([108,115,32,34,97,32,98],(0,())):((List UInt8)×Int×Unit))=some (((6,(0,(2,(false,())))),()):((Int×(Int×(Int×(Bool×Unit))))×Unit)):=by kernel_rfl
theorem ajA:ik (iQ Ed) 211 [.str,(.int .i64)] [((.pair (.int .i64) (.pair (.int .i64) (.pair (.int .i64) (.pair .bool .unit)))),false)] (([108,115,32,34,97,32,98],(2,())):((List UInt8)×Int×Unit))=some (((1,(2,(3,(false,())))),()):((Int×(Int×(Int×(Bool×Unit))))×Unit)):=by kernel_rfl
theorem ajN:ik (iQ Ed) 211 [.str,(.int .i64)] [((.pair (.int .i64) (.pair (.int .i64) (.pair (.int .i64) (.pair .bool .unit)))),false)] (([108,115,32,34,97,32,98],(3,())):((List UInt8)×Int×Unit))=some (((6,(3,(7,(true,())))),()):((Int×(Int×(Int×(Bool×Unit))))×Unit)):=by kernel_rfl
def Np (x:((List UInt8)×Int×Unit)):Option ((Int×(Int×(Int×(Bool×Unit))))×Unit):=bif decide (x=([108,115,32,34,97,32,98],(0,())))then some ((6,(0,(2,(false,())))),())else bif decide (x=([108,115,32,34,97,32,98],(2,())))then some ((1,(2,(3,(false,())))),())else bif decide (x=([108,115,32,34,97,32,98],(3,())))then some ((6,(3,(7,(true,())))),())else none
theorem XH (x:((List UInt8)×Int×Unit)) (y:((Int×(Int×(Int×(Bool×Unit))))×Unit)) (h:Np x=some y):ik (iQ Ed) 211 [.str,(.int .i64)] [((.pair (.int .i64) (.pair (.int .i64) (.pair (.int .i64) (.pair .bool .unit)))),false)] x=some y:=by
 unfold Np at h
 rw[cond_eq_ite]at h
 split at h
 ·rename_i he
  have e:=of_decide_eq_true he
  subst e
  cases h
  exact ai9
 rw[cond_eq_ite]at h
 split at h
 ·rename_i he
  have e:=of_decide_eq_true he
  subst e
  cases h
  exact ajA
 rw[cond_eq_ite]at h
 split at h
 ·rename_i he
  have e:=of_decide_eq_true he
  subst e
  cases h
  exact ajN
 cases h
theorem X4:bD Tryz.prog 211 ⟨[.str,(.int .i64)],[((.pair (.int .i64) (.pair (.int .i64) (.pair (.int .i64) (.pair .bool .unit)))),false)],Np⟩:=gy (kK MO) (by decide) fun x y h=>XH x y h
noncomputable def GI (g:FuncId):Option Sum:=bif Nat.beq g 211 then some ⟨[.str,(.int .i64)],[((.pair (.int .i64) (.pair (.int .i64) (.pair (.int .i64) (.pair .bool .unit)))),false)],Np⟩else Ed g
theorem KE: ∀g s,GI g=some s->bD Tryz.prog g s:=vZ MO X4
theorem aim:ik (iQ GI) 158 [.str] [((.list (.pair (.int .i64) (.pair (.int .i64) (.pair (.int .i64) (.pair (.int .i64) (.pair .bool .unit)))))),false)] (([34,97,32,98],()):((List UInt8)×Unit))=some (([(5,(0,(4,((-1),(true,())))))],()):((List (Int×(Int×(Int×(Int×(Bool×Unit))))))×Unit)):=by kernel_rfl
theorem aib:ik (iQ GI) 158 [.str] [((.list (.pair (.int .i64) (.pair (.int .i64) (.pair (.int .i64) (.pair (.int .i64) (.pair .bool .unit)))))),false)] (([108,115],()):((List UInt8)×Unit))=some (([],()):((List (Int×(Int×(Int×(Int×(Bool×Unit))))))×Unit)):=by kernel_rfl
def PM (x:((List UInt8)×Unit)):Option ((List (Int×(Int×(Int×(Int×(Bool×Unit))))))×Unit):=bif decide (x=([34,97,32,98],()))then some ([(5,(0,(4,((-1),(true,())))))],())else bif decide (x=([108,115],()))then some ([],())else none
theorem VS (x:((List UInt8)×Unit)) (y:((List (Int×(Int×(Int×(Int×(Bool×Unit))))))×Unit)) (h:PM x=some y):ik (iQ GI) 158 [.str] [((.list (.pair (.int .i64) (.pair (.int .i64) (.pair (.int .i64) (.pair (.int .i64) (.pair .bool .unit)))))),false)] x=some y:=by
 unfold PM at h
 rw[cond_eq_ite]at h
 split at h
 ·rename_i he
  have e:=of_decide_eq_true he
  subst e
  cases h
  exact aim
 rw[cond_eq_ite]at h
 split at h
 ·rename_i he
  have e:=of_decide_eq_true he
  subst e
  cases h
  exact aib
 cases h
theorem XK:bD Tryz.prog 158 ⟨[.str],[((.list (.pair (.int .i64) (.pair (.int .i64) (.pair (.int .i64) (.pair (.int .i64) (.pair .bool .unit)))))),false)],PM⟩:=gy (kK KE) (by decide) fun x y h=>VS x y h
noncomputable def IX (g:FuncId):Option Sum:=bif Nat.beq g 158 then some ⟨[.str],[((.list (.pair (.int .i64) (.pair (.int .i64) (.pair (.int .i64) (.pair (.int .i64) (.pair .bool .unit)))))),false)],PM⟩else GI g
theorem Lj: ∀g s,IX g=some s->bD Tryz.prog g s:=vZ KE XK
theorem ajD:ik (iQ IX) 100 [.str] [(.str,false),(.bool,false)] (([34,97,32,98],()):((List UInt8)×Unit))=some (([97,32,98],(true,())):((List UInt8)×Bool×Unit)):=by kernel_rfl
theorem ajl:ik (iQ IX) 100 [.str] [(.str,false),(.bool,false)] (([108,115],()):((List UInt8)×Unit))=some (([108,115],(true,())):((List UInt8)×Bool×Unit)):=by kernel_rfl
def Ns (x:((List UInt8)×Unit)):Option ((List UInt8)×Bool×Unit):=bif decide (x=([34,97,32,98],()))then some ([97,32,98],(true,()))else bif decide (x=([108,115],()))then some ([108,115],(true,()))else none
theorem Xb (x:((List UInt8)×Unit)) (y:((List UInt8)×Bool×Unit)) (h:Ns x=some y):ik (iQ IX) 100 [.str] [(.str,false),(.bool,false)] x=some y:=by
 unfold Ns at h
 rw[cond_eq_ite]at h
 split at h
 ·rename_i he
  have e:=of_decide_eq_true he
  subst e
  cases h
  exact ajD
 rw[cond_eq_ite]at h
 split at h
 ·rename_i he
  have e:=of_decide_eq_true he
  subst e
  cases h
  exact ajl
 cases h
theorem Xg:bD Tryz.prog 100 ⟨[.str],[(.str,false),(.bool,false)],Ns⟩:=gy (kK Lj) (by decide) fun x y h=>Xb x y h
noncomputable def Il (g:FuncId):Option Sum:=bif Nat.beq g 100 then some ⟨[.str],[(.str,false),(.bool,false)],Ns⟩else IX g
theorem MX: ∀g s,Il g=some s->bD Tryz.prog g s:=vZ Lj Xg
theorem aiq:ik (iQ Il) 225 [.str] [(.str,false),(.str,false),(.bool,false)] (([34,97,32,98],()):((List UInt8)×Unit))=some (([],([],(false,()))):((List UInt8)×(List UInt8)×Bool×Unit)):=by kernel_rfl
theorem aiR:ik (iQ Il) 225 [.str] [(.str,false),(.str,false),(.bool,false)] (([108,115],()):((List UInt8)×Unit))=some (([],([],(false,()))):((List UInt8)×(List UInt8)×Bool×Unit)):=by kernel_rfl
def NY (x:((List UInt8)×Unit)):Option ((List UInt8)×(List UInt8)×Bool×Unit):=bif decide (x=([34,97,32,98],()))then some ([],([],(false,())))else bif decide (x=([108,115],()))then some ([],([],(false,())))else none
theorem V6 (x:((List UInt8)×Unit)) (y:((List UInt8)×(List UInt8)×Bool×Unit)) (h:NY x=some y):ik (iQ Il) 225 [.str] [(.str,false),(.str,false),(.bool,false)] x=some y:=by
 unfold NY at h
 rw[cond_eq_ite]at h
 split at h
 ·rename_i he
  have e:=of_decide_eq_true he
  subst e
  cases h
  exact aiq
 rw[cond_eq_ite]at h
 split at h
 ·rename_i he
  have e:=of_decide_eq_true he
  subst e
  cases h
  exact aiR
 cases h
theorem WN:bD Tryz.prog 225 ⟨[.str],[(.str,false),(.str,false),(.bool,false)],NY⟩:=gy (kK MX) (by decide) fun x y h=>V6 x y h
noncomputable def NF (g:FuncId):Option Sum:=bif Nat.beq g 225 then some ⟨[.str],[(.str,false),(.str,false),(.bool,false)],NY⟩else Il g
theorem KI: ∀g s,NF g=some s->bD Tryz.prog g s:=vZ MX WN
theorem aiQ:ik (iQ NF) 163 [(.list (.pair (.int .i64) (.pair (.int .i64) (.pair (.int .i64) (.pair (.int .i64) .unit))))),(.int .i64),(.int .i64)] [((.int .i64),false),((.int .i64),false)] (([(1,(0,(2,((-1),())))),(2,(0,(2,(0,())))),(3,(0,(2,(1,())))),(4,(0,(2,(2,())))),(5,(0,(2,(3,())))),(7,(0,(1,(4,())))),(7,(1,(2,(4,()))))],(4,(6,()))):((List (Int×(Int×(Int×(Int×Unit)))))×Int×Int×Unit))=some ((1,(5,())):(Int×Int×Unit)):=by kernel_rfl
def PN (x:((List (Int×(Int×(Int×(Int×Unit)))))×Int×Int×Unit)):Option (Int×Int×Unit):=bif decide (x=([(1,(0,(2,((-1),())))),(2,(0,(2,(0,())))),(3,(0,(2,(1,())))),(4,(0,(2,(2,())))),(5,(0,(2,(3,())))),(7,(0,(1,(4,())))),(7,(1,(2,(4,()))))],(4,(6,()))))then some (1,(5,()))else none
theorem VX (x:((List (Int×(Int×(Int×(Int×Unit)))))×Int×Int×Unit)) (y:(Int×Int×Unit)) (h:PN x=some y):ik (iQ NF) 163 [(.list (.pair (.int .i64) (.pair (.int .i64) (.pair (.int .i64) (.pair (.int .i64) .unit))))),(.int .i64),(.int .i64)] [((.int .i64),false),((.int .i64),false)] x=some y:=by
 unfold PN at h
 rw[cond_eq_ite]at h
 split at h
 ·rename_i he
  have e:=of_decide_eq_true he
  subst e
  cases h
  exact aiQ
 cases h
theorem WH:bD Tryz.prog 163 ⟨[(.list (.pair (.int .i64) (.pair (.int .i64) (.pair (.int .i64) (.pair (.int .i64) .unit))))),(.int .i64),(.int .i64)],[((.int .i64),false),((.int .i64),false)],PN⟩:=gy (kK KI) (by decide) fun x y h=>VX x y h
noncomputable def ad7 (g:FuncId):Option Sum:=bif Nat.beq g 163 then some ⟨[(.list (.pair (.int .i64) (.pair (.int .i64) (.pair (.int .i64) (.pair (.int .i64) .unit))))),(.int .i64),(.int .i64)],[((.int .i64),false),((.int .i64),false)],PN⟩else NF g
theorem ab1: ∀g s,ad7 g=some s->bD Tryz.prog g s:=vZ KI WH
theorem abA:ik (iQ ad7) 15 [] [(.bool,false)] ()=some (true,()):=by kernel_rfl
def zX:Sum:=⟨[],[(.bool,false)],fun _=>some (true,())⟩
theorem J3:bD Tryz.prog 15 zX:=gy (kK ab1) (by decide) fun x y h=>by
 cases h
 exact abA
end Go.Proofs.YtihafdllichkeaaGreatDoor
namespace Go.Proofs.YtihafdllichkeaaGreatDoor
open Go.RowKit
set_option linter.unusedVariables false
set_option linter.unusedSimpArgs false
set_option maxRecDepth 100000
set_option maxHeartbeats 4000000
def ahP (x0:List UInt8) (x1:Int) (x2:Int) (x3:List (Int×Int×Int×Bool×Unit)) (x4:Int) (x5:Int) (x6:Int) (x7:Bool) (x8:Bool):Option (((List UInt8)×Int×Int×(List (Int×Int×Int×Bool×Unit))×Int×Int×Int×Bool×Bool×Unit)×(Bool×Unit)):=
 bif x8 then
  some ((x0,(x1,(x2,(x3,(x4,(x5,(x6,(x7,(x8,()))))))))),(true,()))
 else
 bif(aH x4 7)then
  bif x7 then
   some ((x0,(x1,(x2,(x3,(x4,(x5,(x6,(x7,(x8,()))))))))),(true,()))
  else
  bif(dX x0 (ag .i64 (ah x0) 1))then
   some ((x0,(x1,(x2,(x3,(x4,(x5,(x6,(x7,(x8,()))))))))),((!(aH (aI x0 (ag .i64 (ah x0) 1)) 10)),()))
  else
  none
 else
 some ((x0,(x1,(x2,(x3,(x4,(x5,(x6,(x7,(x8,()))))))))),(false,()))
def aku:gq:=(⟨72,[(.str,false),(.int .i64,false),(.int .i64,false),(.list (.pair (.int .i64) (.pair (.int .i64) (.pair (.int .i64) (.pair .bool .unit)))),false),(.int .i64,false),(.int .i64,false),(.int .i64,false),(.bool,false),(.bool,false)],[],[.bool],fun x y=>ahP x.1 x.2.1 x.2.2.1 x.2.2.2.1 x.2.2.2.2.1 x.2.2.2.2.2.1 x.2.2.2.2.2.2.1 x.2.2.2.2.2.2.2.1 x.2.2.2.2.2.2.2.2.1⟩:gq)
noncomputable def akx:Env:=fZ Tryz.prog tt [] [] [] []
theorem arZ (x0:List UInt8) (x1:Int) (x2:Int) (x3:List (Int×Int×Int×Bool×Unit)) (x4:Int) (x5:Int) (x6:Int) (x7:Bool) (x8:Bool):uB akx 47 72 [(.str,false),(.int .i64,false),(.int .i64,false),(.list (.pair (.int .i64) (.pair (.int .i64) (.pair (.int .i64) (.pair .bool .unit)))),false),(.int .i64,false),(.int .i64,false),(.int .i64,false),(.bool,false),(.bool,false)] [] [.bool] (x0,x1,x2,x3,x4,x5,x6,x7,x8,()) ()=ahP x0 x1 x2 x3 x4 x5 x6 x7 x8:=by kernel_rfl
theorem aeM:bJ akx:=dQ tok mixed bV (sg:=[]) aN [] (by kernel_rfl) (by kernel_rfl) aN bW bC
theorem afg:gY Tryz.prog 47 aku:=dY aeM fun x y z h=>(arZ (x.1) (x.2.1) (x.2.2.1) (x.2.2.2.1) (x.2.2.2.2.1) (x.2.2.2.2.2.1) (x.2.2.2.2.2.2.1) (x.2.2.2.2.2.2.2.1) (x.2.2.2.2.2.2.2.2.1)).trans h
def afX (x0:List UInt8) (x1:Int) (x2:Int) (x3:List (Int×Int×Int×Bool×Unit)) (x4:Int) (x5:Int) (x6:Int) (x7:Bool) (x8:Bool):Option (((List UInt8)×Int×Int×(List (Int×Int×Int×Bool×Unit))×Int×Int×Int×Bool×Bool×Unit)×(Int×Unit)):=
 bif(aH x4 6)then
  some ((x0,(x1,(x2,(x3,(x4,(x5,(x6,(x7,(x8,()))))))))),(x5,()))
 else
 some ((x0,(x1,(x2,(x3,(x4,(x5,(x6,(x7,(x8,()))))))))),((ah x0),()))
def akV:gq:=(⟨72,[(.str,false),(.int .i64,false),(.int .i64,false),(.list (.pair (.int .i64) (.pair (.int .i64) (.pair (.int .i64) (.pair .bool .unit)))),false),(.int .i64,false),(.int .i64,false),(.int .i64,false),(.bool,false),(.bool,false)],[],[.int .i64],fun x y=>afX x.1 x.2.1 x.2.2.1 x.2.2.2.1 x.2.2.2.2.1 x.2.2.2.2.2.1 x.2.2.2.2.2.2.1 x.2.2.2.2.2.2.2.1 x.2.2.2.2.2.2.2.2.1⟩:gq)
noncomputable def ak7:Env:=fZ Tryz.prog tt [] [] [] []
theorem arI (x0:List UInt8) (x1:Int) (x2:Int) (x3:List (Int×Int×Int×Bool×Unit)) (x4:Int) (x5:Int) (x6:Int) (x7:Bool) (x8:Bool):uB ak7 49 72 [(.str,false),(.int .i64,false),(.int .i64,false),(.list (.pair (.int .i64) (.pair (.int .i64) (.pair (.int .i64) (.pair .bool .unit)))),false),(.int .i64,false),(.int .i64,false),(.int .i64,false),(.bool,false),(.bool,false)] [] [.int .i64] (x0,x1,x2,x3,x4,x5,x6,x7,x8,()) ()=afX x0 x1 x2 x3 x4 x5 x6 x7 x8:=by kernel_rfl
theorem aeG:bJ ak7:=dQ tok mixed bV (sg:=[]) aN [] (by kernel_rfl) (by kernel_rfl) aN bW bC
theorem afM:gY Tryz.prog 49 akV:=dY aeG fun x y z h=>(arI (x.1) (x.2.1) (x.2.2.1) (x.2.2.2.1) (x.2.2.2.2.1) (x.2.2.2.2.2.1) (x.2.2.2.2.2.2.1) (x.2.2.2.2.2.2.2.1) (x.2.2.2.2.2.2.2.2.1)).trans h
noncomputable def b50:Code:=(Tryz.f50.body).getD .skip
noncomputable def ak3:Code:=cA (cA (cB (cA (cB (cB (b50))))))
def akQ:dB:=⟨[3,9,10,11,100003],[],[3],[],[2],[]⟩
def Zk:SP:=⟨us [.u,.u,.u,.slc 1000008,.u,.u,.u,.u,.u,.v (.list (.pair (.int .i64) (.pair (.int .i64) .unit))),.v (.int .i64),.v (.int .i64)] 23,[.arr 1000008 (.int .u8)]⟩
def Wl:SP:=⟨us [.u,.u,.u,.slc 1000008] 31,[.arr 1000008 (.int .u8)]⟩
def V9:SP:=⟨us [.u,.u,.v .str] 32,[]⟩
def O1 {γ:Type} (rec:(List (Int×Int×Unit))->Int->Int->(List (Int))->Option γ) (kE:(List (Int))->Option γ) (kR:(List UInt8)->Option γ) (v0:List (Int×Int×Unit)) (v1:Int) (v2:Int) (v3:List (Int)):Option γ:=
 bif(fD v2 v1)then
  bif(dX v0 v2)then
   bif(fD (af v0 (0,(0,())) v2).1 0)then
    bif(aZ (az v3 [63]) 1)then
     rec v0 v1 (aG .i64 v2 1) (az v3 [63])
    else
    none
   else
   bif(leI 15 (af v0 (0,(0,())) v2).1)then
    bif(aZ (az v3 [63]) 1)then
     rec v0 v1 (aG .i64 v2 1) (az v3 [63])
    else
    none
   else
   bif(dX [84,67,80,79,83,68,66,86,73,65,82,69,76,88,35] (af v0 (0,(0,())) v2).1)then
    bif(aZ (az v3 [(aI [84,67,80,79,83,68,66,86,73,65,82,69,76,88,35] (af v0 (0,(0,())) v2).1)]) 1)then
     rec v0 v1 (aG .i64 v2 1) (az v3 [(aI [84,67,80,79,83,68,66,86,73,65,82,69,76,88,35] (af v0 (0,(0,())) v2).1)])
    else
    none
   else
   none
  else
  none
 else
 kE v3
def Ag:Nat->(List (Int×Int×Unit))->Int->Int->(List (Int))->Option (Wl.den⊕V9.den)
 |0,_,_,_,_=>none
 |n+1,v0,v1,v2,v3=>O1 (Ag n) (fun e0=>some (.inl ((),(e0,())))) (fun r0=>some (.inr ((r0,()),()))) v0 v1 v2 v3
noncomputable def adM:bG:=dO akQ Zk Wl V9 (.exit 0) (fun v=>Ag aO v.1.1 v.1.2.1 v.1.2.2.1 v.2.1) 6
def aih (x0:List (Int×Int×Unit)):Option ((List UInt8)×Unit):=
 bif((leI 0 0)&&((leI 0 (ah x0))&&(aeb (ah x0) 1)))then
  ai (Ag aO x0 (ah x0) 0 (aoY (au 0) 0)) fun y0=>
   bF y0 (fun a1=>
    some ((ofBytes a1.2.1),())) (fun b1=>
    some (b1.1.1,()))
 else
 none
def ahI:Sum:=(⟨[.list (.pair (.int .i64) (.pair (.int .i64) .unit))],[(.str,false)],fun x=>aih x.1⟩:Sum)
noncomputable def ahX:Env:=dH Tryz.prog tt 50 [] [(3,akQ)] [(3,adM)]
def aeu {γ:Type} (a:Zk.den->Option γ) (b:Wl.den->Option γ) (c:V9.den->Option γ) (v:Zk.den):Option γ:=O1 (fun v0 v1 v2 v3=>a ((v0,v1,v2,()),(v3,()))) (fun e0=>b ((),(e0,()))) (fun r0=>c ((r0,()),())) v.1.1 v.1.2.1 v.1.2.2.1 v.2.1
theorem amU:di ahX 50 ak3 adM:=wG (aeu) (lp:=fun n (v:Zk.den)=>Ag n v.1.1 v.1.2.1 v.1.2.2.1 v.2.1) (by kernel_rfl) (fun _=>rfl) (fun _ _=>rfl) (fun d n K v=>by kernel_rfl) (by intros;simp only[aeu,O1,bg,bn,ae,aV,bi])
theorem apq:bZ b50=[ak3]:=by kernel_rfl
theorem aqG:cZ ahX 50 b50:=bP b50 (fun _=>rfl) (by rw[apq];exact(aC ⟨fL (by kernel_rfl) (amU),aN⟩))
theorem agp:bJ ahX:=bz tok mixed bV (sg:=[]) aN (fn:=Tryz.f50) (c:=b50) (by kernel_rfl) (by kernel_rfl) (aqG) bW bC
theorem ah2:bD Tryz.prog 50 ahI:=ed agp (by decide) fun x=>by kernel_rfl
def UN (x0:List UInt8) (x1:Int) (x2:Int) (x3:List (Int×Int×Int×Bool×Unit)) (x4:Int) (x5:Int) (x6:Int) (x7:Bool) (x8:Bool):Option (((List UInt8)×Int×Int×(List (Int×Int×Int×Bool×Unit))×Int×Int×Int×Bool×Bool×Unit)×(Unit)):=
 bif(fD 0 (ah x3))then
  bif(dX x3 (ag .i64 (ah x3) 1))then
   some ((x0,(x1,(x2,(x3,((af x3 (0,(0,(0,(false,())))) (ag .i64 (ah x3) 1)).1,((af x3 (0,(0,(0,(false,())))) (ag .i64 (ah x3) 1)).2.1,((af x3 (0,(0,(0,(false,())))) (ag .i64 (ah x3) 1)).2.2.1,((af x3 (0,(0,(0,(false,())))) (ag .i64 (ah x3) 1)).2.2.2.1,(x8,()))))))))),())
  else
  none
 else
 some ((x0,(x1,(x2,(x3,(x4,(x5,(x6,(x7,(x8,()))))))))),())
def adS:gq:=(⟨72,[(.str,false),(.int .i64,false),(.int .i64,false),(.list (.pair (.int .i64) (.pair (.int .i64) (.pair (.int .i64) (.pair .bool .unit)))),false),(.int .i64,false),(.int .i64,false),(.int .i64,false),(.bool,false),(.bool,false)],[],[],fun x y=>UN x.1 x.2.1 x.2.2.1 x.2.2.2.1 x.2.2.2.2.1 x.2.2.2.2.2.1 x.2.2.2.2.2.2.1 x.2.2.2.2.2.2.2.1 x.2.2.2.2.2.2.2.2.1⟩:gq)
noncomputable def adO:Env:=fZ Tryz.prog tt [] [] [] []
theorem al9 (x0:List UInt8) (x1:Int) (x2:Int) (x3:List (Int×Int×Int×Bool×Unit)) (x4:Int) (x5:Int) (x6:Int) (x7:Bool) (x8:Bool):uB adO 102 72 [(.str,false),(.int .i64,false),(.int .i64,false),(.list (.pair (.int .i64) (.pair (.int .i64) (.pair (.int .i64) (.pair .bool .unit)))),false),(.int .i64,false),(.int .i64,false),(.int .i64,false),(.bool,false),(.bool,false)] [] [] (x0,x1,x2,x3,x4,x5,x6,x7,x8,()) ()=UN x0 x1 x2 x3 x4 x5 x6 x7 x8:=by kernel_rfl
theorem abf:bJ adO:=dQ tok mixed bV (sg:=[]) aN [] (by kernel_rfl) (by kernel_rfl) aN bW bC
theorem ada:gY Tryz.prog 102 adS:=dY abf fun x y z h=>(al9 (x.1) (x.2.1) (x.2.2.1) (x.2.2.2.1) (x.2.2.2.2.1) (x.2.2.2.2.2.1) (x.2.2.2.2.2.2.1) (x.2.2.2.2.2.2.2.1) (x.2.2.2.2.2.2.2.2.1)).trans h
def ala:dB:=⟨[0,1],[],[],[],[],[]⟩
def ab5 (x0:List UInt8) (x1:Int):Option ((List UInt8)×Int×Unit):=
 bif(fD x1 0)then
  some ([],(1,()))
 else
 bif(fD (ah x0) x1)then
  some ([],(1,()))
 else
 bif(bu (ah x0) 0 x1)then
  ai (ail (sub x0 0 x1)) fun y0=>
   ai (UN (sub x0 0 x1) 0 0 y0.1 0 0 0 false y0.2.1.2.2.1) fun y1=>
    ai (ahP y1.1.1 y1.1.2.1 y1.1.2.2.1 y1.1.2.2.2.1 y1.1.2.2.2.2.1 y1.1.2.2.2.2.2.1 y1.1.2.2.2.2.2.2.1 y1.1.2.2.2.2.2.2.2.1 y1.1.2.2.2.2.2.2.2.2.1) fun y2=>
     bif y2.2.1 then
      some ([72],(0,()))
     else
     bif(aH y2.1.2.2.2.2.1 3)then
      some ([84,35],(0,()))
     else
     ai (afX y2.1.1 y2.1.2.1 y2.1.2.2.1 y2.1.2.2.2.1 y2.1.2.2.2.2.1 y2.1.2.2.2.2.2.1 y2.1.2.2.2.2.2.2.1 y2.1.2.2.2.2.2.2.2.1 y2.1.2.2.2.2.2.2.2.2.1) fun y3=>
      bif(cO y3.1.1 y2.1.1)then
       bif(bu (ah y2.1.1) y3.2.1 (ah y2.1.1))then
        ai (agV (sub y2.1.1 y3.2.1 (ah y2.1.1))) fun y4=>
         bif(cO y3.1.1 y2.1.1)then
          ai (aih y4.1) fun y5=>
           some (y5.1,(0,()))
         else
         none
       else
       none
      else
      none
 else
 none
def aec:Sum:=(⟨[.str,.int .i64],[(.str,false),(.int .i64,false)],fun x=>ab5 x.1 x.2.1⟩:Sum)
noncomputable def asv:Env:=fZ Tryz.prog tt [(48,UG),(50,ahI),(59,ahy)] [(18,600003,ala)] [] [] [(47,aku),(49,akV),(102,adS)]
theorem aeO:bJ asv:=dQ tok mixed bV (sg:=[(48,UG),(50,ahI),(59,ahy)]) (aC ⟨(TN),(aC ⟨(ah2),(aC ⟨(afS),aN⟩)⟩)⟩) [] (by kernel_rfl) (by kernel_rfl) aN bW bC (hx:=(aC ⟨afg,(aC ⟨afM,(aC ⟨ada,aN⟩)⟩)⟩))
theorem adR:bD Tryz.prog 18 aec:=ed aeO (by decide) fun x=>by kernel_rfl
noncomputable def ae9:Code:=(Tryz.f107.body).getD .skip
noncomputable def ahG:Code:=cA (cA (cA (cB (cB (cB (cB (ae9)))))))
def afN:dB:=⟨[0,8,9,100006],[(8,(.pair (.int .i64) (.pair (.int .i64) (.pair (.int .i64) (.pair .bool .unit)))))],[8],[],[4,5],[(4,(.pair (.int .i64) (.pair (.int .i64) (.pair (.int .i64) (.pair .bool .unit)))))]⟩
def Qe:SP:=⟨us [.v .str,.u,.u,.u,.u,.u,.u,.u,.slc 1800008,.v (.int .i64)] 30,[.arr 1800008 (.pair (.int .i64) (.pair (.int .i64) (.pair (.int .i64) (.pair .bool .unit))))]⟩
def Rj:SP:=⟨us [.u,.u,.u,.u,.u,.u,.u,.u,.slc 1800008] 31,[.arr 1800008 (.pair (.int .i64) (.pair (.int .i64) (.pair (.int .i64) (.pair .bool .unit))))]⟩
def Qn:SP:=⟨us [.u,.u,.u,.u,.v (.list (.pair (.int .i64) (.pair (.int .i64) (.pair (.int .i64) (.pair .bool .unit))))),.v .bool] 34,[]⟩
def Qs {γ:Type} (rec:(List UInt8)->Int->(List (Int×Int×Int×Bool×Unit))->Option γ) (kE:(List (Int×Int×Int×Bool×Unit))->Option γ) (kR:(List (Int×Int×Int×Bool×Unit))->Bool->Option γ) (v0:List UInt8) (v1:Int) (v2:List (Int×Int×Int×Bool×Unit)):Option γ:=
 bif(fD v1 (ah v0))then
  ai (aet v0 v1 (0,([],(false,())))) fun y0=>
   bif(aZ (az v2 [(y0.1.1,(y0.1.2.1,(y0.1.2.2.1,(y0.1.2.2.2.1,()))))]) 32)then
    rec v0 y0.1.2.2.1 (az v2 [(y0.1.1,(y0.1.2.1,(y0.1.2.2.1,(y0.1.2.2.2.1,()))))])
   else
   none
 else
 kE v2
def FO:Nat->(List UInt8)->Int->(List (Int×Int×Int×Bool×Unit))->Option (Rj.den⊕Qn.den)
 |0,_,_,_=>none
 |n+1,v0,v1,v2=>Qs (FO n) (fun e0=>some (.inl ((),(e0,())))) (fun r0 r1=>some (.inr ((r0,r1,()),()))) v0 v1 v2
noncomputable def YD:bG:=dO afN Qe Rj Qn (.exit 0) (fun v=>FO aO v.1.1 v.1.2.1 v.2.1) 6
def Me (x0:List UInt8) (x1:Bool):Option ((List (Int×Int×Int×Bool×Unit))×Bool×Unit):=
 bif(!x1)then
  ai (aeS x0) fun y0=>
   some (y0.1,(y0.2.1.2.2.1,()))
 else
 ai (FO aO x0 0 []) fun y0=>
  bF y0 (fun a1=>
   some (a1.2.1,(false,()))) (fun b1=>
   some (b1.1.1,(b1.1.2.1,())))
def zS:Sum:=(⟨[.str,.bool],[(.list (.pair (.int .i64) (.pair (.int .i64) (.pair (.int .i64) (.pair .bool .unit)))),false),(.bool,false)],fun x=>Me x.1 x.2.1⟩:Sum)
noncomputable def U3:Env:=dH Tryz.prog tt 107 [(74,RQ),(90,UA)] [(6,afN)] [(6,YD)]
def aal {γ:Type} (a:Qe.den->Option γ) (b:Rj.den->Option γ) (c:Qn.den->Option γ) (v:Qe.den):Option γ:=Qs (fun v0 v1 v2=>a ((v0,v1,()),(v2,()))) (fun e0=>b ((),(e0,()))) (fun r0 r1=>c ((r0,r1,()),())) v.1.1 v.1.2.1 v.2.1
theorem aki:di U3 107 ahG YD:=wG (aal) (lp:=fun n (v:Qe.den)=>FO n v.1.1 v.1.2.1 v.2.1) (by kernel_rfl) (fun _=>rfl) (fun _ _=>rfl) (fun d n K v=>by kernel_rfl) (by intros;simp only[aal,Qs,bg,bn,ae,aV,bi])
theorem ali:bZ ae9=[ahG]:=by kernel_rfl
theorem amA:cZ U3 107 ae9:=bP ae9 (fun _=>rfl) (by rw[ali];exact(aC ⟨fL (by kernel_rfl) (aki),aN⟩))
theorem acv:bJ U3:=bz tok mixed bV (sg:=[(74,RQ),(90,UA)]) (aC ⟨(UE),(aC ⟨(Ti),aN⟩)⟩) (fn:=Tryz.f107) (c:=ae9) (by kernel_rfl) (by kernel_rfl) (amA) bW bC
theorem Ea:bD Tryz.prog 107 zS:=ed acv (by decide) fun x=>by kernel_rfl
def akb (x0:List UInt8) (x1:Bool):Option (Bool×Unit):=
 ai (Me x0 x1) fun y0=>
  bif y0.2.1 then
   some (true,())
  else
  bif(fD 0 (ah y0.1))then
   bif(dX y0.1 (ag .i64 (ah y0.1) 1))then
    bif(aH (af y0.1 (0,(0,(0,(false,())))) (ag .i64 (ah y0.1) 1)).1 7)then
     bif(dX y0.1 (ag .i64 (ah y0.1) 1))then
      bif(af y0.1 (0,(0,(0,(false,())))) (ag .i64 (ah y0.1) 1)).2.2.2.1 then
       some (true,())
      else
      bif(dX x0 (ag .i64 (ah x0) 1))then
       some ((!(aH (aI x0 (ag .i64 (ah x0) 1)) 10)),())
      else
      none
     else
     none
    else
    some (false,())
   else
   none
  else
  some (false,())
def agB:Sum:=(⟨[.str,.bool],[(.bool,false)],fun x=>akb x.1 x.2.1⟩:Sum)
noncomputable def arX:Env:=dH Tryz.prog tt 51 [(107,zS)] [] []
theorem agv:bJ arX:=bz tok mixed bV (sg:=[(107,zS)]) (aC ⟨(Ea),aN⟩) (fn:=Tryz.f51) (c:=(Tryz.f51.body).getD .skip) (by kernel_rfl) (by kernel_rfl) (aS (fun _=>rfl) (fun _=>rfl) _) bW bC
theorem afq:bD Tryz.prog 51 agB:=ed agv (by decide) fun x=>by kernel_rfl
def aii (x0:List UInt8) (x1:Bool):Option (Bool×Unit):=
 ai (Me x0 x1) fun y0=>
  bif(fD 0 (ah y0.1))then
   bif(dX y0.1 (ag .i64 (ah y0.1) 1))then
    some ((aH (af y0.1 (0,(0,(0,(false,())))) (ag .i64 (ah y0.1) 1)).1 3),())
   else
   none
  else
  some (false,())
def ad4:Sum:=(⟨[.str,.bool],[(.bool,false)],fun x=>aii x.1 x.2.1⟩:Sum)
noncomputable def as6:Env:=dH Tryz.prog tt 52 [(107,zS)] [] []
theorem ahT:bJ as6:=bz tok mixed bV (sg:=[(107,zS)]) (aC ⟨(Ea),aN⟩) (fn:=Tryz.f52) (c:=(Tryz.f52.body).getD .skip) (by kernel_rfl) (by kernel_rfl) (aS (fun _=>rfl) (fun _=>rfl) _) bW bC
theorem ahO:bD Tryz.prog 52 ad4:=ed ahT (by decide) fun x=>by kernel_rfl
def aiT (x0:List UInt8) (x1:Bool):Option (Int×Unit):=
 ai (Me x0 x1) fun y0=>
  bif(fD 0 (ah y0.1))then
   bif(dX y0.1 (ag .i64 (ah y0.1) 1))then
    bif(aH (af y0.1 (0,(0,(0,(false,())))) (ag .i64 (ah y0.1) 1)).1 6)then
     bif(dX y0.1 (ag .i64 (ah y0.1) 1))then
      some ((af y0.1 (0,(0,(0,(false,())))) (ag .i64 (ah y0.1) 1)).2.1,())
     else
     none
    else
    some ((ah x0),())
   else
   none
  else
  some ((ah x0),())
def af6:Sum:=(⟨[.str,.bool],[(.int .i64,false)],fun x=>aiT x.1 x.2.1⟩:Sum)
noncomputable def aqd:Env:=dH Tryz.prog tt 54 [(107,zS)] [] []
theorem aeV:bJ aqd:=bz tok mixed bV (sg:=[(107,zS)]) (aC ⟨(Ea),aN⟩) (fn:=Tryz.f54) (c:=(Tryz.f54.body).getD .skip) (by kernel_rfl) (by kernel_rfl) (aS (fun _=>rfl) (fun _=>rfl) _) bW bC
theorem agF:bD Tryz.prog 54 af6:=ed aeV (by decide) fun x=>by kernel_rfl
def ajv (x0:List UInt8):Option ((List UInt8)×Unit):=
 ai (akb x0 false) fun y0=>
  bif y0.1 then
   some ([72],())
  else
  ai (aii x0 false) fun y1=>
   bif y1.1 then
    some ([84,35],())
   else
   ai (aiT x0 false) fun y2=>
    bif(bu (ah x0) y2.1 (ah x0))then
     ai (ahQ (sub x0 y2.1 (ah x0))) fun y3=>
      some (y3.1.1,())
    else
    none
def agW:Sum:=(⟨[.str],[(.str,false)],fun x=>ajv x.1⟩:Sum)
noncomputable def aqe:Env:=dH Tryz.prog tt 19 [(51,agB),(52,ad4),(53,Ut),(54,af6)] [] []
theorem aed:bJ aqe:=bz tok mixed bV (sg:=[(51,agB),(52,ad4),(53,Ut),(54,af6)]) (aC ⟨(afq),(aC ⟨(ahO),(aC ⟨(TU),(aC ⟨(agF),aN⟩)⟩)⟩)⟩) (fn:=Tryz.f19) (c:=(Tryz.f19.body).getD .skip) (by kernel_rfl) (by kernel_rfl) (aS (fun _=>rfl) (fun _=>rfl) _) bW bC
theorem agS:bD Tryz.prog 19 agW:=ed aed (by decide) fun x=>by kernel_rfl
def fn5 (x0:List UInt8) (x1:Int):Option (Bool×Unit):=
 bif(fD 100 (ah x0))then
  some (true,())
 else
 ai (ab5 x0 x1) fun y0=>
  bif(fD x1 0)then
   bif(aH y0.2.1 1)then
    some ((cO y0.1 []),())
   else
   some (false,())
  else
  bif(fD (ah x0) x1)then
   bif(aH y0.2.1 1)then
    some ((cO y0.1 []),())
   else
   some (false,())
  else
  bif(aH y0.2.1 0)then
   bif(bu (ah x0) 0 x1)then
    ai (ajv (sub x0 0 x1)) fun y1=>
     some ((cO y0.1 y1.1),())
   else
   none
  else
  some (false,())
def am2:Sum:=(⟨[.str,.int .i64],[(.bool,false)],fun x=>fn5 x.1 x.2.1⟩:Sum)
noncomputable def as2:Env:=dH Tryz.prog tt 5 [(15,zX),(18,aec),(19,agW)] [] []
theorem Yi:bJ as2:=bz tok mixed bV (sg:=[(15,zX),(18,aec),(19,agW)]) (aC ⟨(J3),(aC ⟨(adR),(aC ⟨(agS),aN⟩)⟩)⟩) (fn:=Tryz.f5) (c:=(Tryz.f5.body).getD .skip) (by kernel_rfl) (by kernel_rfl) (aS (fun _=>rfl) (fun _=>rfl) _) bW bC
theorem ata:bD Tryz.prog 5 am2:=ed Yi (by decide) fun x=>by kernel_rfl
end Go.Proofs.YtihafdllichkeaaGreatDoor
namespace Go.Proofs.YtihafdllichkeaaGreatDoor
open Go.RowKit
set_option linter.unusedVariables false
set_option linter.unusedSimpArgs false
set_option maxRecDepth 100000
def GU (u:List UInt8) (k:Int) (op b:Bool):Bool:=b||(decide (k=7)&&(op|| !(aH (aI u (ah u-1)) 10)))
def zl (u:List UInt8) (t:Tok):Int:=if t.1=6 then t.2.1 else ah u
theorem alu (u:List UInt8) (f d:Int) (l:List Tok) (hl:l.length<1000000) (b:Bool):
  UN u f d l 0 0 0 false b=some ((u,(f,(d,(l,((iG l).1,((iG l).2.1,((iG l).2.2.1,((iG l).2.2.2.1,(b,()))))))))),()):=by
 rw[UN]
 rcases List.eq_nil_or_concat l with h|⟨r,t,h⟩
 ·subst h;rfl
 ·rw[List.concat_eq_append]at h
  subst h
  obtain⟨h1,h2,h3⟩:=BA r t (by rw[List.length_append]at hl;omega)
  rw[h1,cond_true,h2,cond_true]
  simp only[h3,xI]
theorem ajQ (u:List UInt8) (hu:u.length<1000000) (f d:Int) (l:List Tok) (k fr to_:Int) (op b:Bool) (h7:k=7->u≠[]):
  ahP u f d l k fr to_ op b=some ((u,(f,(d,(l,(k,(fr,(to_,(op,(b,()))))))))),(GU u k op b,())):=by
 rw[ahP]
 unfold GU
 cases b with
 |true=>rfl
 |false=>
  rw[cond_false]
  by_cases h:k=7
  ·have hne:0<u.length:=List.length_pos_iff.2 (h7 h)
   rw[aK (dJ h)]
   cases op with
   |true=>simp[h]
   |false=>
    have hs:ag .i64 (ah u) 1=ah u-1:=fU (by rw[aB];omega) (by rw[aB];omega)
    rw[cond_false,hs,aK (dw (by rw[aB];omega) (by rw[aB];omega))]
    simp[h]
  ·rw[aU (bU h)];simp[h]
theorem ajb (u:List UInt8) (f d:Int) (l:List Tok) (k fr to_:Int) (op b:Bool):
  afX u f d l k fr to_ op b=some ((u,(f,(d,(l,(k,(fr,(to_,(op,(b,()))))))))),(if k=6 then fr else ah u,())):=by
 rw[afX]
 by_cases h:k=6
 ·rw[aK (dJ h),if_pos h]
 ·rw[aU (bU h),if_neg h]
theorem Js {u:List UInt8} (hu:u.length<=10000):Me u false=some ((gX u).1,((gX u).2.2.2.1,())):=by
 rw[Me,Bool.not_false,cond_true,akG hu,ae]
theorem amE {u:List UInt8} (hu:u.length<=10000):akb u false=some (GU u (iG (gX u).1).1 (iG (gX u).1).2.2.2.1 (gX u).2.2.2.1,()):=by
 have hk:=DT hu
 rw[akb,Js hu,ae]
 unfold GU
 simp only
 cases (gX u).2.2.2.1 with
 |true=>rfl
 |false=>
  rw[cond_false]
  rcases List.eq_nil_or_concat (gX u).1 with e|⟨r,t,e⟩
  ·rw[e];rfl
  ·rw[List.concat_eq_append]at e
   have hl:=(vX hu).2.2
   rw[e,List.length_append]at hl
   rw[e,xI]at hk ⊢
   obtain⟨h1,h2,h3⟩:=BA r t (by omega)
   rw[h1,cond_true,h2,cond_true]
   simp only[h3]
   by_cases h:t.1=7
   ·have hne:0<u.length:=List.length_pos_iff.2 (hk (by omega)).2.2
    have hs:ag .i64 (ah u) 1=ah u-1:=fU (by rw[aB];omega) (by rw[aB];omega)
    rw[aK (dJ h),cond_true]
    cases t.2.2.2.1 with
    |true=>simp[h]
    |false=>
     rw[cond_false,hs,aK (dw (by rw[aB];omega) (by rw[aB];omega))]
     simp[h]
   ·rw[aU (bU h)];simp[h]
theorem adw {u:List UInt8} (hu:u.length<=10000):aii u false=some (aH (iG (gX u).1).1 3,()):=by
 rw[aii,Js hu,ae]
 simp only
 rcases List.eq_nil_or_concat (gX u).1 with e|⟨r,t,e⟩
 ·rw[e];rfl
 ·rw[List.concat_eq_append]at e
  have hl:=(vX hu).2.2
  rw[e,List.length_append]at hl
  rw[e,xI]
  obtain⟨h1,h2,h3⟩:=BA r t (by omega)
  rw[h1,cond_true,h2,cond_true]
  simp only[h3]
theorem al6 {u:List UInt8} (hu:u.length<=10000):aiT u false=some (zl u (iG (gX u).1),()):=by
 rw[aiT,Js hu,ae]
 unfold zl
 simp only
 rcases List.eq_nil_or_concat (gX u).1 with e|⟨r,t,e⟩
 ·rw[e];rfl
 ·rw[List.concat_eq_append]at e
  have hl:=(vX hu).2.2
  rw[e,List.length_append]at hl
  rw[e,xI]
  obtain⟨h1,h2,h3⟩:=BA r t (by omega)
  rw[h1,cond_true,h2,cond_true]
  simp only[h3]
  by_cases h:t.1=6
  ·rw[aK (dJ h),cond_true,if_pos h]
  ·rw[aU (bU h),if_neg h]
theorem RS {u:List UInt8} (hu:u.length<=10000):0<=zl u (iG (gX u).1)/\zl u (iG (gX u).1)<=ah u:=by
 unfold zl
 split
 ·rename_i h
  have:=DT hu (by omega)
  rw[aB];omega
 ·rw[aB];omega
theorem MB (F:List yM) (hF:F.length<1000000) (hm: ∀f∈F,0<=f.1/\f.1<=14): ∀(N k:Nat) (t:List UInt8),F.length-k<N->k<=F.length->t.length<=k->
  Ag N F (ah F) (k:Int) (ak t)=some (.inl ((),(ak (t++(F.drop k).map fun f=>letter f.1),())))
 |0,k,t,h,_,_=>by omega
 |N+1,k,t,h,hk,ht=>by
  rw[Ag,O1]
  by_cases e:k<F.length
  ·have hg:af F (0,(0,())) (k:Int)=F[k]:=by
    unfold af
    rw[Int.toNat_natCast,List.getD_eq_getElem?_getD,List.getElem?_eq_getElem e];rfl
   obtain⟨m0,m1⟩:=hm _ (List.getElem_mem e)
   rw[aK (dM (by rw[aB];omega)),aK (dw (by omega) (by omega)),hg,aU (iq m0),aU (EO (by omega)),
    aK (dw m0 (by simp only[List.length_cons,List.length_nil];omega))]
   have hb:([aI [84,67,80,79,83,68,66,86,73,65,82,69,76,88,35] F[k].1]:List Int)=ak [letter F[k].1]:=rfl
   rw[hb,nz,aK (zk (by rw[List.length_append,List.length_singleton];omega)),bI (by omega) (by omega),show(k:Int)+1=((k+1:Nat):Int) by omega,
    MB F hF hm N (k+1) _ (by omega) (by omega) (by rw[List.length_append,List.length_singleton];omega),List.drop_eq_getElem_cons e,List.map_cons,List.append_assoc]
   rfl
  ·rw[aU (gp (by rw[aB];omega)),List.drop_of_length_le (by omega),List.map_nil,List.append_nil]
theorem alA {F:List yM} (hF:F.length<1000000) (hm: ∀f∈F,0<=f.1/\f.1<=14):aih F=some (F.map fun f=>letter f.1,()):=by
 have h:=MB F hF hm aO 0 [] (dh (by omega)) (by omega) (by simp)
 have hc:aeb (ah F) 1=true:=by
  unfold aeb jg ah
  rw[Int.toNat_natCast]
  exact decide_eq_true (by omega)
 rw[aih,hc,show(leI 0 0&&(leI 0 (ah F)&&true))=true by rw[pX (show(0:Int)<=ah F by rw[aB];omega)];rfl,cond_true,
  show Ag aO F (ah F) 0 (aoY (au 0) 0)=_ from h,ae]
 simp only[bF,Ar,List.drop_zero,List.nil_append]
theorem aox (s:dm):(lo s).map (fun f=>letter f.1)=so s:=by
 unfold lo so
 rw[List.map_reverse,List.map_map];rfl
def PZ (u:List UInt8):List UInt8:=
 if GU u (iG (gX u).1).1 (iG (gX u).1).2.2.2.1 (gX u).2.2.2.1=true then [72]
 else if aH (iG (gX u).1).1 3=true then [84,35]
 else so (jq (sub u (zl u (iG (gX u).1)) (ah u)) 0 bY).1
theorem aiS {u:List UInt8} (hu:u.length<=10000):ajv u=some (PZ u,()):=by
 have hw:=RS hu
 have hl:=qg u (zl u (iG (gX u).1)) (ah u)
 unfold PZ
 rw[ajv,amE hu,ae]
 simp only
 cases GU u (iG (gX u).1).1 (iG (gX u).1).2.2.2.1 (gX u).2.2.2.1 with
 |true=>rfl
 |false=>
  rw[cond_false,if_neg (by simp),adw hu,ae]
  simp only
  cases aH (iG (gX u).1).1 3 with
  |true=>rfl
  |false=>
   rw[cond_false,if_neg (by simp),al6 hu,ae]
   simp only
   rw[aK (dC hw.1 hw.2 (by omega)),akK _ (by omega),ae]
   rfl
theorem aiw {s:List UInt8} (hs:s.length<=10000) {c:Int} (h0:0<=c) (hc:c<=s.length):ab5 s c=some (PZ (sub s 0 c),(0,())):=by
 have hu:(sub s 0 c).length<=10000:=Nat.le_trans (qg s 0 c) hs
 rw[ab5,aU (iq h0),aU (iq (by rw[aB];omega)),aK (dC (by omega) h0 (by rw[aB];omega))]
 generalize sub s 0 c=u at hu
 have hw:=RS hu
 have hl:=qg u (zl u (iG (gX u).1)) (ah u)
 have hk:=DT hu
 have hlen:=(vX hu).2.2
 rw[ar0 hu,ae]
 simp only
 rw[alu u 0 0 _ (by omega),ae]
 simp only
 rw[ajQ u (by omega) 0 0 _ _ _ _ _ _ (fun h=>(hk (by omega)).2.2),ae]
 unfold PZ
 simp only
 cases GU u (iG (gX u).1).1 (iG (gX u).1).2.2.2.1 (gX u).2.2.2.1 with
 |true=>rfl
 |false=>
  rw[cond_false,if_neg (by simp)]
  cases aH (iG (gX u).1).1 3 with
  |true=>rfl
  |false=>
   have hww:(if(iG (gX u).1).1=6 then(iG (gX u).1).2.1 else ah u)=zl u (iG (gX u).1):=rfl
   rw[cond_false,if_neg (by simp),ajb,ae,hww]
   simp only
   rw[jF,cond_true,aK (dC hw.1 hw.2 (by omega)),akn _ (by omega),ae,cond_true]
   have hg:=tH (sub u (zl u (iG (gX u).1)) (ah u)) 0 bY iC
   have hfl:bY.1.length=1:=rfl
   have hm:=vz hg.1
   simp only
   rw[alA (by rw[jl];omega) (fun f hf=>by
    unfold lo at hf
    rw[List.mem_reverse,List.mem_map]at hf
    obtain⟨g,hg1,rfl⟩:=hf
    exact hm g hg1),ae,aox]
theorem abb (s:List UInt8) (c:Int):fn5 s c=some (true,()):=by
 rw[fn5]
 by_cases h:s.length<=100
 ·rw[aU (iq (by rw[aB];omega))]
  by_cases h0:0<=c
  ·by_cases hc:c<=s.length
   ·rw[aiw (by omega) h0 hc,ae,aU (iq h0),aU (iq (by rw[aB];omega))]
    simp only
    rw[show aH 0 0=true from rfl,cond_true,aK (dC (by omega) h0 (by rw[aB];omega)),aiS (Nat.le_trans (qg s 0 c) (by omega)),ae,jF]
   ·have hlt:fD (ah s) c=true:=dM (by rw[aB];omega)
    rw[ab5,aU (iq h0),hlt,cond_true,ae,aU (iq h0),cond_true];rfl
  ·have hlt:fD c 0=true:=dM (by omega)
   rw[ab5,hlt,cond_true,ae,cond_true];rfl
 ·rw[aK (dM (by rw[aB];omega))]
end Go.Proofs.YtihafdllichkeaaGreatDoor
