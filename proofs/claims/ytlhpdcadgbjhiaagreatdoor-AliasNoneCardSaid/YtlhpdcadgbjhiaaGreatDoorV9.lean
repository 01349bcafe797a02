/- Parts of the proof, joined and shortened by a program: the plain machine, the functions as it prints them, and the mathematics over them. -/
import Derived.Test.YtlhpdcadgbjhiaaGreatDoorV3
import Derived.Test.YtlhpdcadgbjhiaaGreatDoorV4
import Derived.Test.YtlhpdcadgbjhiaaGreatDoorV5
import Derived.Test.YtlhpdcadgbjhiaaGreatDoorV6
import Derived.Test.YtlhpdcadgbjhiaaGreatDoorV7
import Derived.Test.YtlhpdcadgbjhiaaGreatDoorV8
set_option linter.unusedVariables false
set_option linter.unusedSimpArgs false
set_option maxRecDepth 100000
set_option maxHeartbeats 4000000
namespace Go.Proofs.YtlhpdcadgbjhiaaGreatDoor
section
open Tryz
open Go.RowKit
def Ah (d:Int):Option o8:=aZ (Nh d) fun e=>cond (bC e.1 5) (some (true,()))<|cond (bC e.1 6) (some (true,()))<|some ((leI 128 d),())
def aim (d:Int):Option o8:=cond (bC d 37) (cond (bC d 37) (some (true,()))<|Ah d)<|cond (bC d 43) (cond (bC d 43) (some (true,()))<|Ah d)<|cond (bC d 44) (cond (bC d 44) (some (true,()))<|Ah d)<|cond (bC d 45) (cond (bC d 45) (some (true,()))<|Ah d)<|cond (bC d 46) (cond (bC d 46) (some (true,()))<|Ah d)<|cond (bC d 47) (cond (bC d 47) (some (true,()))<|Ah d)<|cond (bC d 58) (cond (bC d 58) (some (true,()))<|Ah d)<|cond (bC d 64) (some (true,()))<|Ah d
def aoV:Sum:=⟨[.int .u8],Wl,fun x=>aim x.1⟩
theorem alm:dO prog 91 aoV:=qA f91 [] (sE rH aN)
noncomputable def b15:Code:=(Tryz.f15.body).getD .skip
end
section
open Go.RowKit
def adu (c:UInt8):Bool:=match aim (c.toNat:Int)with
 |some (b,_)=>b
 |none=>false
def atB:Bool:=(List.range 256).all fun b=>match aim (b:Int)with
 |some _=>true
 |none=>false
theorem akm:atB=true:=by kernel_rfl
theorem ars (c:UInt8):aim (c.toNat:Int)=some (adu c,()):=by
 have h:=List.all_eq_true.1 akm c.toNat (List.mem_range.2 (by have:=c.toNat_lt;omega));split at h
 .rename_i x d
  unfold adu;rw[d]
 .cases h
end
section
open Go.RowKit
end
end Go.Proofs.YtlhpdcadgbjhiaaGreatDoor
