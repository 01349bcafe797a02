/- Parts of the proof, joined and shortened by a program: the plain machine, the functions as it prints them, and the mathematics over them. -/
import Derived.Test.YtlhpdcadgbjhiaaGreatDoorY3
import Derived.Test.YtlhpdcadgbjhiaaGreatDoorY4
import Derived.Test.YtlhpdcadgbjhiaaGreatDoorY5
import Derived.Test.YtlhpdcadgbjhiaaGreatDoorY6
import Derived.Test.YtlhpdcadgbjhiaaGreatDoorY7
import Derived.Test.YtlhpdcadgbjhiaaGreatDoorY8
import Derived.Test.YtlhpdcadgbjhiaaGreatDoorY9
set_option linter.unusedVariables false
set_option linter.unusedSimpArgs false
set_option maxRecDepth 100000
set_option maxHeartbeats 4000000
namespace Go.Proofs.YtlhpdcadgbjhiaaGreatDoor
section
open Option renaming some → a6, none → a7
open Tryz
open Go.RowKit
def DF (d:Int):Option pq:=bH (SI d) fun e=>cond (bP e.1 5) (a6 (true,()))<|cond (bP e.1 6) (a6 (true,()))<|some ((leI 128 d),())
def agG (d:Int):Option pq:=cond (bP d 37) (cond (bP d 37) (a6 (true,()))<|DF d)<|cond (bP d 43) (cond (bP d 43) (a6 (true,()))<|DF d)<|cond (bP d 44) (cond (bP d 44) (a6 (true,()))<|DF d)<|cond (bP d 45) (cond (bP d 45) (a6 (true,()))<|DF d)<|cond (bP d 46) (cond (bP d 46) (a6 (true,()))<|DF d)<|cond (bP d 47) (cond (bP d 47) (a6 (true,()))<|DF d)<|cond (bP d 58) (cond (bP d 58) (a6 (true,()))<|DF d)<|cond (bP d 64) (a6 (true,()))<|DF d
def aCE:Sum:=⟨[.int .u8],NZ,fun x=>agG x.1⟩
theorem axx:dU prog 91 aCE:=qA f91 [] (sE uN aN)
def ayv (d:Int):Option pq:=bH (SN d) fun e=>cond (bP e.1 5) (a6 (true,()))<|bH (SN d) fun f=>cond (bP f.1 6) (a6 (true,()))<|cond (gV 127 d) (a6 (true,()))<|bH (Gy d [37,43,44,45,46,47,58,64]) fun g=>a6 (g.1,())
def aCp:Sum:=⟨[.int .u8],NZ,fun x=>ayv x.1⟩
theorem axf:dU prog 33 aCp:=qA f33 [] (sE EI (sE EJ aN))
end
section
open Bool renaming and_eq_true → af
open Go.RowKit
def Pn (c:UInt8):Bool:=match agG (c.toNat:Int)with
 |some (b,_)=>b
 |none=>false
def aIK:Bool:=(List.range 256).all fun b=>match agG (b:Int)with
 |some _=>true
 |none=>false
theorem avY:aIK=true:=by kernel_rfl
theorem aFX (c:UInt8):agG (c.toNat:Int)=some (Pn c,()):=by
 have h:=List.all_eq_true.1 avY c.toNat (List.mem_range.2 (by have:=c.toNat_lt;omega));split at h
 .rename_i x d
  unfold Pn;rw[d]
 .cases h
def aFW:Bool:=(List.range 256).all fun b=>match agG (b:Int),ayv (b:Int),Gy (b:Int) [36,96,34,92]with
 |some (x,_),some (y,_),some (z,_)=>(x==y)&&(z==(bP b 36||(bP b 96||(bP b 34||bP b 92))))
 |_,_,_=>false
theorem aAT:aFW=true:=by kernel_rfl
theorem aAS (c:UInt8):agG (c.toNat:Int)=some (Pn c,())/\ayv (c.toNat:Int)=some (Pn c,())/\Gy (c.toNat:Int) [36,96,34,92]=some ((bP (c.toNat:Int) 36||(bP (c.toNat:Int) 96||(bP (c.toNat:Int) 34||bP (c.toNat:Int) 92))),()):=by
 have h:=List.all_eq_true.1 aAT c.toNat (List.mem_range.2 (by have:=c.toNat_lt;omega));split at h
 .rename_i x u y v k w d e f
  simp only[af,beq_iff_eq]at h;unfold Pn;simp_all
 .cases h
end
section
open Go.RowKit
end
end Go.Proofs.YtlhpdcadgbjhiaaGreatDoor
