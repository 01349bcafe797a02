/-
  The plain functions of some functions of the program, and that they are computed.
-/
import Derived.Test.YtacflfpffpbkiaaE
namespace Go.Proofs.Ytacflfpffpbkiaa
open Go.RowKit
set_option linter.unusedVariables false
set_option linter.unusedSimpArgs false
set_option maxRecDepth 100000

def sumAwake : Sum := ⟨[], [(.bool, false)], fun _ => some (true, ())⟩
theorem sumAwake_ok : SumOk Try.prog 4 sumAwake := sum_of_run env0_ok (by decide) fun x y h => by
  cases h
  exact (show runF env0 4 [] [(.bool, false)] () = some (true, ()) by kernel_rfl)

/-! ### quillwort/class.Of -/
def fn17 (x0 : Int) : Option (Int × Unit) :=
  bif (eqI x0 32) then
    bif (eqI x0 32) then
      some (1, ())
    else
    bif (eqI x0 10) then
      some (2, ())
    else
    bif (leI 48 x0) then
      bif (leI x0 57) then
        some (6, ())
      else
      bif (leI 97 x0) then
        bif (leI x0 122) then
          bif (leI x0 122) then
            some (5, ())
          else
          bif (eqI x0 124) then
            bif (eqI x0 124) then
              some (3, ())
            else
            bif (eqI x0 92) then
              bif (eqI x0 92) then
                some (4, ())
              else
              some (0, ())
            else
            bif (eqI x0 39) then
              bif (eqI x0 39) then
                some (4, ())
              else
              some (0, ())
            else
            bif (eqI x0 34) then
              bif (eqI x0 34) then
                some (4, ())
              else
              some (0, ())
            else
            bif (eqI x0 96) then
              bif (eqI x0 96) then
                some (4, ())
              else
              some (0, ())
            else
            bif (eqI x0 36) then
              some (4, ())
            else
            some (0, ())
          else
          bif (eqI x0 38) then
            bif (eqI x0 38) then
              some (3, ())
            else
            bif (eqI x0 92) then
              bif (eqI x0 92) then
                some (4, ())
              else
              some (0, ())
            else
            bif (eqI x0 39) then
              bif (eqI x0 39) then
                some (4, ())
              else
              some (0, ())
            else
            bif (eqI x0 34) then
              bif (eqI x0 34) then
                some (4, ())
              else
              some (0, ())
            else
            bif (eqI x0 96) then
              bif (eqI x0 96) then
                some (4, ())
              else
              some (0, ())
            else
            bif (eqI x0 36) then
              some (4, ())
            else
            some (0, ())
          else
          bif (eqI x0 59) then
            bif (eqI x0 59) then
              some (3, ())
            else
            bif (eqI x0 92) then
              bif (eqI x0 92) then
                some (4, ())
              else
              some (0, ())
            else
            bif (eqI x0 39) then
              bif (eqI x0 39) then
                some (4, ())
              else
              some (0, ())
            else
            bif (eqI x0 34) then
              bif (eqI x0 34) then
                some (4, ())
              else
              some (0, ())
            else
            bif (eqI x0 96) then
              bif (eqI x0 96) then
                some (4, ())
              else
              some (0, ())
            else
            bif (eqI x0 36) then
              some (4, ())
            else
            some (0, ())
          else
          bif (eqI x0 60) then
            bif (eqI x0 60) then
              some (3, ())
            else
            bif (eqI x0 92) then
              bif (eqI x0 92) then
                some (4, ())
              else
              some (0, ())
            else
            bif (eqI x0 39) then
              bif (eqI x0 39) then
                some (4, ())
              else
              some (0, ())
            else
            bif (eqI x0 34) then
              bif (eqI x0 34) then
                some (4, ())
              else
              some (0, ())
            else
            bif (eqI x0 96) then
              bif (eqI x0 96) then
                some (4, ())
              else
              some (0, ())
            else
            bif (eqI x0 36) then
              some (4, ())
            else
            some (0, ())
          else
          bif (eqI x0 62) then
            bif (eqI x0 62) then
              some (3, ())
            else
            bif (eqI x0 92) then
              bif (eqI x0 92) then
                some (4, ())
              else
              some (0, ())
            else
            bif (eqI x0 39) then
              bif (eqI x0 39) then
                some (4, ())
              else
              some (0, ())
            else
            bif (eqI x0 34) then
              bif (eqI x0 34) then
                some (4, ())
              else
              some (0, ())
            else
            bif (eqI x0 96) then
              bif (eqI x0 96) then
                some (4, ())
              else
              some (0, ())
            else
            bif (eqI x0 36) then
              some (4, ())
            else
            some (0, ())
          else
          bif (eqI x0 40) then
            bif (eqI x0 40) then
              some (3, ())
            else
            bif (eqI x0 92) then
              bif (eqI x0 92) then
                some (4, ())
              else
              some (0, ())
            else
            bif (eqI x0 39) then
              bif (eqI x0 39) then
                some (4, ())
              else
              some (0, ())
            else
            bif (eqI x0 34) then
              bif (eqI x0 34) then
                some (4, ())
              else
              some (0, ())
            else
            bif (eqI x0 96) then
              bif (eqI x0 96) then
                some (4, ())
              else
              some (0, ())
            else
            bif (eqI x0 36) then
              some (4, ())
            else
            some (0, ())
          else
          bif (eqI x0 41) then
            some (3, ())
          else
          bif (eqI x0 92) then
            bif (eqI x0 92) then
              some (4, ())
            else
            some (0, ())
          else
          bif (eqI x0 39) then
            bif (eqI x0 39) then
              some (4, ())
            else
            some (0, ())
          else
          bif (eqI x0 34) then
            bif (eqI x0 34) then
              some (4, ())
            else
            some (0, ())
          else
          bif (eqI x0 96) then
            bif (eqI x0 96) then
              some (4, ())
            else
            some (0, ())
          else
          bif (eqI x0 36) then
            some (4, ())
          else
          some (0, ())
        else
        bif (leI 65 x0) then
          bif (leI x0 90) then
            bif (leI x0 90) then
              some (5, ())
            else
            bif (eqI x0 124) then
              bif (eqI x0 124) then
                some (3, ())
              else
              bif (eqI x0 92) then
                bif (eqI x0 92) then
                  some (4, ())
                else
                some (0, ())
              else
              bif (eqI x0 39) then
                bif (eqI x0 39) then
                  some (4, ())
                else
                some (0, ())
              else
              bif (eqI x0 34) then
                bif (eqI x0 34) then
                  some (4, ())
                else
                some (0, ())
              else
              bif (eqI x0 96) then
                bif (eqI x0 96) then
                  some (4, ())
                else
                some (0, ())
              else
              bif (eqI x0 36) then
                some (4, ())
              else
              some (0, ())
            else
            bif (eqI x0 38) then
              bif (eqI x0 38) then
                some (3, ())
              else
              bif (eqI x0 92) then
                bif (eqI x0 92) then
                  some (4, ())
                else
                some (0, ())
              else
              bif (eqI x0 39) then
                bif (eqI x0 39) then
                  some (4, ())
                else
                some (0, ())
              else
              bif (eqI x0 34) then
                bif (eqI x0 34) then
                  some (4, ())
                else
                some (0, ())
              else
              bif (eqI x0 96) then
                bif (eqI x0 96) then
                  some (4, ())
                else
                some (0, ())
              else
              bif (eqI x0 36) then
                some (4, ())
              else
              some (0, ())
            else
            bif (eqI x0 59) then
              bif (eqI x0 59) then
                some (3, ())
              else
              bif (eqI x0 92) then
                bif (eqI x0 92) then
                  some (4, ())
                else
                some (0, ())
              else
              bif (eqI x0 39) then
                bif (eqI x0 39) then
                  some (4, ())
                else
                some (0, ())
              else
              bif (eqI x0 34) then
                bif (eqI x0 34) then
                  some (4, ())
                else
                some (0, ())
              else
              bif (eqI x0 96) then
                bif (eqI x0 96) then
                  some (4, ())
                else
                some (0, ())
              else
              bif (eqI x0 36) then
                some (4, ())
              else
              some (0, ())
            else
            bif (eqI x0 60) then
              bif (eqI x0 60) then
                some (3, ())
              else
              bif (eqI x0 92) then
                bif (eqI x0 92) then
                  some (4, ())
                else
                some (0, ())
              else
              bif (eqI x0 39) then
                bif (eqI x0 39) then
                  some (4, ())
                else
                some (0, ())
              else
              bif (eqI x0 34) then
                bif (eqI x0 34) then
                  some (4, ())
                else
                some (0, ())
              else
              bif (eqI x0 96) then
                bif (eqI x0 96) then
                  some (4, ())
                else
                some (0, ())
              else
              bif (eqI x0 36) then
                some (4, ())
              else
              some (0, ())
            else
            bif (eqI x0 62) then
              bif (eqI x0 62) then
                some (3, ())
              else
              bif (eqI x0 92) then
                bif (eqI x0 92) then
                  some (4, ())
                else
                some (0, ())
              else
              bif (eqI x0 39) then
                bif (eqI x0 39) then
                  some (4, ())
                else
                some (0, ())
              else
              bif (eqI x0 34) then
                bif (eqI x0 34) then
                  some (4, ())
                else
                some (0, ())
              else
              bif (eqI x0 96) then
                bif (eqI x0 96) then
                  some (4, ())
                else
                some (0, ())
              else
              bif (eqI x0 36) then
                some (4, ())
              else
              some (0, ())
            else
            bif (eqI x0 40) then
              bif (eqI x0 40) then
                some (3, ())
              else
              bif (eqI x0 92) then
                bif (eqI x0 92) then
                  some (4, ())
                else
                some (0, ())
              else
              bif (eqI x0 39) then
                bif (eqI x0 39) then
                  some (4, ())
                else
                some (0, ())
              else
              bif (eqI x0 34) then
                bif (eqI x0 34) then
                  some (4, ())
                else
                some (0, ())
              else
              bif (eqI x0 96) then
                bif (eqI x0 96) then
                  some (4, ())
                else
                some (0, ())
              else
              bif (eqI x0 36) then
                some (4, ())
              else
              some (0, ())
            else
            bif (eqI x0 41) then
              some (3, ())
            else
            bif (eqI x0 92) then
              bif (eqI x0 92) then
                some (4, ())
              else
              some (0, ())
            else
            bif (eqI x0 39) then
              bif (eqI x0 39) then
                some (4, ())
              else
              some (0, ())
            else
            bif (eqI x0 34) then
              bif (eqI x0 34) then
                some (4, ())
              else
              some (0, ())
            else
            bif (eqI x0 96) then
              bif (eqI x0 96) then
                some (4, ())
              else
              some (0, ())
            else
            bif (eqI x0 36) then
              some (4, ())
            else
            some (0, ())
          else
          bif (eqI x0 95) then
            some (5, ())
          else
          bif (eqI x0 124) then
            bif (eqI x0 124) then
              some (3, ())
            else
            bif (eqI x0 92) then
              bif (eqI x0 92) then
                some (4, ())
              else
              some (0, ())
            else
            bif (eqI x0 39) then
              bif (eqI x0 39) then
                some (4, ())
              else
              some (0, ())
            else
            bif (eqI x0 34) then
              bif (eqI x0 34) then
                some (4, ())
              else
              some (0, ())
            else
            bif (eqI x0 96) then
              bif (eqI x0 96) then
                some (4, ())
              else
              some (0, ())
            else
            bif (eqI x0 36) then
              some (4, ())
            else
            some (0, ())
          else
          bif (eqI x0 38) then
            bif (eqI x0 38) then
              some (3, ())
            else
            bif (eqI x0 92) then
              bif (eqI x0 92) then
                some (4, ())
              else
              some (0, ())
            else
            bif (eqI x0 39) then
              bif (eqI x0 39) then
                some (4, ())
              else
              some (0, ())
            else
            bif (eqI x0 34) then
              bif (eqI x0 34) then
                some (4, ())
              else
              some (0, ())
            else
            bif (eqI x0 96) then
              bif (eqI x0 96) then
                some (4, ())
              else
              some (0, ())
            else
            bif (eqI x0 36) then
              some (4, ())
            else
            some (0, ())
          else
          bif (eqI x0 59) then
            bif (eqI x0 59) then
              some (3, ())
            else
            bif (eqI x0 92) then
              bif (eqI x0 92) then
                some (4, ())
              else
              some (0, ())
            else
            bif (eqI x0 39) then
              bif (eqI x0 39) then
                some (4, ())
              else
              some (0, ())
            else
            bif (eqI x0 34) then
              bif (eqI x0 34) then
                some (4, ())
              else
              some (0, ())
            else
            bif (eqI x0 96) then
              bif (eqI x0 96) then
                some (4, ())
              else
              some (0, ())
            else
            bif (eqI x0 36) then
              some (4, ())
            else
            some (0, ())
          else
          bif (eqI x0 60) then
            bif (eqI x0 60) then
              some (3, ())
            else
            bif (eqI x0 92) then
              bif (eqI x0 92) then
                some (4, ())
              else
              some (0, ())
            else
            bif (eqI x0 39) then
              bif (eqI x0 39) then
                some (4, ())
              else
              some (0, ())
            else
            bif (eqI x0 34) then
              bif (eqI x0 34) then
                some (4, ())
              else
              some (0, ())
            else
            bif (eqI x0 96) then
              bif (eqI x0 96) then
                some (4, ())
              else
              some (0, ())
            else
            bif (eqI x0 36) then
              some (4, ())
            else
            some (0, ())
          else
          bif (eqI x0 62) then
            bif (eqI x0 62) then
              some (3, ())
            else
            bif (eqI x0 92) then
              bif (eqI x0 92) then
                some (4, ())
              else
              some (0, ())
            else
            bif (eqI x0 39) then
              bif (eqI x0 39) then
                some (4, ())
              else
              some (0, ())
            else
            bif (eqI x0 34) then
              bif (eqI x0 34) then
                some (4, ())
              else
              some (0, ())
            else
            bif (eqI x0 96) then
              bif (eqI x0 96) then
                some (4, ())
              else
              some (0, ())
            else
            bif (eqI x0 36) then
              some (4, ())
            else
            some (0, ())
          else
          bif (eqI x0 40) then
            bif (eqI x0 40) then
              some (3, ())
            else
            bif (eqI x0 92) then
              bif (eqI x0 92) then
                some (4, ())
              else
              some (0, ())
            else
            bif (eqI x0 39) then
              bif (eqI x0 39) then
                some (4, ())
              else
              some (0, ())
            else
            bif (eqI x0 34) then
              bif (eqI x0 34) then
                some (4, ())
              else
              some (0, ())
            else
            bif (eqI x0 96) then
              bif (eqI x0 96) then
                some (4, ())
              else
              some (0, ())
            else
            bif (eqI x0 36) then
              some (4, ())
            else
            some (0, ())
          else
          bif (eqI x0 41) then
            some (3, ())
          else
          bif (eqI x0 92) then
            bif (eqI x0 92) then
              some (4, ())
            else
            some (0, ())
          else
          bif (eqI x0 39) then
            bif (eqI x0 39) then
              some (4, ())
            else
            some (0, ())
          else
          bif (eqI x0 34) then
            bif (eqI x0 34) then
              some (4, ())
            else
            some (0, ())
          else
          bif (eqI x0 96) then
            bif (eqI x0 96) then
              some (4, ())
            else
            some (0, ())
          else
          bif (eqI x0 36) then
            some (4, ())
          else
          some (0, ())
        else
        bif (eqI x0 95) then
          some (5, ())
        else
        bif (eqI x0 124) then
          bif (eqI x0 124) then
            some (3, ())
          else
          bif (eqI x0 92) then
            bif (eqI x0 92) then
              some (4, ())
            else
            some (0, ())
          else
          bif (eqI x0 39) then
            bif (eqI x0 39) then
              some (4, ())
            else
            some (0, ())
          else
          bif (eqI x0 34) then
            bif (eqI x0 34) then
              some (4, ())
            else
            some (0, ())
          else
          bif (eqI x0 96) then
            bif (eqI x0 96) then
              some (4, ())
            else
            some (0, ())
          else
          bif (eqI x0 36) then
            some (4, ())
          else
          some (0, ())
        else
        bif (eqI x0 38) then
          bif (eqI x0 38) then
            some (3, ())
          else
          bif (eqI x0 92) then
            bif (eqI x0 92) then
              some (4, ())
            else
            some (0, ())
          else
          bif (eqI x0 39) then
            bif (eqI x0 39) then
              some (4, ())
            else
            some (0, ())
          else
          bif (eqI x0 34) then
            bif (eqI x0 34) then
              some (4, ())
            else
            some (0, ())
          else
          bif (eqI x0 96) then
            bif (eqI x0 96) then
              some (4, ())
            else
            some (0, ())
          else
          bif (eqI x0 36) then
            some (4, ())
          else
          some (0, ())
        else
        bif (eqI x0 59) then
          bif (eqI x0 59) then
            some (3, ())
          else
          bif (eqI x0 92) then
            bif (eqI x0 92) then
              some (4, ())
            else
            some (0, ())
          else
          bif (eqI x0 39) then
            bif (eqI x0 39) then
              some (4, ())
            else
            some (0, ())
          else
          bif (eqI x0 34) then
            bif (eqI x0 34) then
              some (4, ())
            else
            some (0, ())
          else
          bif (eqI x0 96) then
            bif (eqI x0 96) then
              some (4, ())
            else
            some (0, ())
          else
          bif (eqI x0 36) then
            some (4, ())
          else
          some (0, ())
        else
        bif (eqI x0 60) then
          bif (eqI x0 60) then
            some (3, ())
          else
          bif (eqI x0 92) then
            bif (eqI x0 92) then
              some (4, ())
            else
            some (0, ())
          else
          bif (eqI x0 39) then
            bif (eqI x0 39) then
              some (4, ())
            else
            some (0, ())
          else
          bif (eqI x0 34) then
            bif (eqI x0 34) then
              some (4, ())
            else
            some (0, ())
          else
          bif (eqI x0 96) then
            bif (eqI x0 96) then
              some (4, ())
            else
            some (0, ())
          else
          bif (eqI x0 36) then
            some (4, ())
          else
          some (0, ())
        else
        bif (eqI x0 62) then
          bif (eqI x0 62) then
            some (3, ())
          else
          bif (eqI x0 92) then
            bif (eqI x0 92) then
              some (4, ())
            else
            some (0, ())
          else
          bif (eqI x0 39) then
            bif (eqI x0 39) then
              some (4, ())
            else
            some (0, ())
          else
          bif (eqI x0 34) then
            bif (eqI x0 34) then
              some (4, ())
            else
            some (0, ())
          else
          bif (eqI x0 96) then
            bif (eqI x0 96) then
              some (4, ())
            else
            some (0, ())
          else
          bif (eqI x0 36) then
            some (4, ())
          else
          some (0, ())
        else
        bif (eqI x0 40) then
          bif (eqI x0 40) then
            some (3, ())
          else
          bif (eqI x0 92) then
            bif (eqI x0 92) then
              some (4, ())
            else
            some (0, ())
          else
          bif (eqI x0 39) then
            bif (eqI x0 39) then
              some (4, ())
            else
            some (0, ())
          else
          bif (eqI x0 34) then
            bif (eqI x0 34) then
              some (4, ())
            else
            some (0, ())
          else
          bif (eqI x0 96) then
            bif (eqI x0 96) then
              some (4, ())
            else
            some (0, ())
          else
          bif (eqI x0 36) then
            some (4, ())
          else
          some (0, ())
        else
        bif (eqI x0 41) then
          some (3, ())
        else
        bif (eqI x0 92) then
          bif (eqI x0 92) then
            some (4, ())
          else
          some (0, ())
        else
        bif (eqI x0 39) then
          bif (eqI x0 39) then
            some (4, ())
          else
          some (0, ())
        else
        bif (eqI x0 34) then
          bif (eqI x0 34) then
            some (4, ())
          else
          some (0, ())
        else
        bif (eqI x0 96) then
          bif (eqI x0 96) then
            some (4, ())
          else
          some (0, ())
        else
        bif (eqI x0 36) then
          some (4, ())
        else
        some (0, ())
      else
      bif (leI 65 x0) then
        bif (leI x0 90) then
          bif (leI x0 90) then
            some (5, ())
          else
          bif (eqI x0 124) then
            bif (eqI x0 124) then
              some (3, ())
            else
            bif (eqI x0 92) then
              bif (eqI x0 92) then
                some (4, ())
              else
              some (0, ())
            else
            bif (eqI x0 39) then
              bif (eqI x0 39) then
                some (4, ())
              else
              some (0, ())
            else
            bif (eqI x0 34) then
              bif (eqI x0 34) then
                some (4, ())
              else
              some (0, ())
            else
            bif (eqI x0 96) then
              bif (eqI x0 96) then
                some (4, ())
              else
              some (0, ())
            else
            bif (eqI x0 36) then
              some (4, ())
            else
            some (0, ())
          else
          bif (eqI x0 38) then
            bif (eqI x0 38) then
              some (3, ())
            else
            bif (eqI x0 92) then
              bif (eqI x0 92) then
                some (4, ())
              else
              some (0, ())
            else
            bif (eqI x0 39) then
              bif (eqI x0 39) then
                some (4, ())
              else
              some (0, ())
            else
            bif (eqI x0 34) then
              bif (eqI x0 34) then
                some (4, ())
              else
              some (0, ())
            else
            bif (eqI x0 96) then
              bif (eqI x0 96) then
                some (4, ())
              else
              some (0, ())
            else
            bif (eqI x0 36) then
              some (4, ())
            else
            some (0, ())
          else
          bif (eqI x0 59) then
            bif (eqI x0 59) then
              some (3, ())
            else
            bif (eqI x0 92) then
              bif (eqI x0 92) then
                some (4, ())
              else
              some (0, ())
            else
            bif (eqI x0 39) then
              bif (eqI x0 39) then
                some (4, ())
              else
              some (0, ())
            else
            bif (eqI x0 34) then
              bif (eqI x0 34) then
                some (4, ())
              else
              some (0, ())
            else
            bif (eqI x0 96) then
              bif (eqI x0 96) then
                some (4, ())
              else
              some (0, ())
            else
            bif (eqI x0 36) then
              some (4, ())
            else
            some (0, ())
          else
          bif (eqI x0 60) then
            bif (eqI x0 60) then
              some (3, ())
            else
            bif (eqI x0 92) then
              bif (eqI x0 92) then
                some (4, ())
              else
              some (0, ())
            else
            bif (eqI x0 39) then
              bif (eqI x0 39) then
                some (4, ())
              else
              some (0, ())
            else
            bif (eqI x0 34) then
              bif (eqI x0 34) then
                some (4, ())
              else
              some (0, ())
            else
            bif (eqI x0 96) then
              bif (eqI x0 96) then
                some (4, ())
              else
              some (0, ())
            else
            bif (eqI x0 36) then
              some (4, ())
            else
            some (0, ())
          else
          bif (eqI x0 62) then
            bif (eqI x0 62) then
              some (3, ())
            else
            bif (eqI x0 92) then
              bif (eqI x0 92) then
                some (4, ())
              else
              some (0, ())
            else
            bif (eqI x0 39) then
              bif (eqI x0 39) then
                some (4, ())
              else
              some (0, ())
            else
            bif (eqI x0 34) then
              bif (eqI x0 34) then
                some (4, ())
              else
              some (0, ())
            else
            bif (eqI x0 96) then
              bif (eqI x0 96) then
                some (4, ())
              else
              some (0, ())
            else
            bif (eqI x0 36) then
              some (4, ())
            else
            some (0, ())
          else
          bif (eqI x0 40) then
            bif (eqI x0 40) then
              some (3, ())
            else
            bif (eqI x0 92) then
              bif (eqI x0 92) then
                some (4, ())
              else
              some (0, ())
            else
            bif (eqI x0 39) then
              bif (eqI x0 39) then
                some (4, ())
              else
              some (0, ())
            else
            bif (eqI x0 34) then
              bif (eqI x0 34) then
                some (4, ())
              else
              some (0, ())
            else
            bif (eqI x0 96) then
              bif (eqI x0 96) then
                some (4, ())
              else
              some (0, ())
            else
            bif (eqI x0 36) then
              some (4, ())
            else
            some (0, ())
          else
          bif (eqI x0 41) then
            some (3, ())
          else
          bif (eqI x0 92) then
            bif (eqI x0 92) then
              some (4, ())
            else
            some (0, ())
          else
          bif (eqI x0 39) then
            bif (eqI x0 39) then
              some (4, ())
            else
            some (0, ())
          else
          bif (eqI x0 34) then
            bif (eqI x0 34) then
              some (4, ())
            else
            some (0, ())
          else
          bif (eqI x0 96) then
            bif (eqI x0 96) then
              some (4, ())
            else
            some (0, ())
          else
          bif (eqI x0 36) then
            some (4, ())
          else
          some (0, ())
        else
        bif (eqI x0 95) then
          some (5, ())
        else
        bif (eqI x0 124) then
          bif (eqI x0 124) then
            some (3, ())
          else
          bif (eqI x0 92) then
            bif (eqI x0 92) then
              some (4, ())
            else
            some (0, ())
          else
          bif (eqI x0 39) then
            bif (eqI x0 39) then
              some (4, ())
            else
            some (0, ())
          else
          bif (eqI x0 34) then
            bif (eqI x0 34) then
              some (4, ())
            else
            some (0, ())
          else
          bif (eqI x0 96) then
            bif (eqI x0 96) then
              some (4, ())
            else
            some (0, ())
          else
          bif (eqI x0 36) then
            some (4, ())
          else
          some (0, ())
        else
        bif (eqI x0 38) then
          bif (eqI x0 38) then
            some (3, ())
          else
          bif (eqI x0 92) then
            bif (eqI x0 92) then
              some (4, ())
            else
            some (0, ())
          else
          bif (eqI x0 39) then
            bif (eqI x0 39) then
              some (4, ())
            else
            some (0, ())
          else
          bif (eqI x0 34) then
            bif (eqI x0 34) then
              some (4, ())
            else
            some (0, ())
          else
          bif (eqI x0 96) then
            bif (eqI x0 96) then
              some (4, ())
            else
            some (0, ())
          else
          bif (eqI x0 36) then
            some (4, ())
          else
          some (0, ())
        else
        bif (eqI x0 59) then
          bif (eqI x0 59) then
            some (3, ())
          else
          bif (eqI x0 92) then
            bif (eqI x0 92) then
              some (4, ())
            else
            some (0, ())
          else
          bif (eqI x0 39) then
            bif (eqI x0 39) then
              some (4, ())
            else
            some (0, ())
          else
          bif (eqI x0 34) then
            bif (eqI x0 34) then
              some (4, ())
            else
            some (0, ())
          else
          bif (eqI x0 96) then
            bif (eqI x0 96) then
              some (4, ())
            else
            some (0, ())
          else
          bif (eqI x0 36) then
            some (4, ())
          else
          some (0, ())
        else
        bif (eqI x0 60) then
          bif (eqI x0 60) then
            some (3, ())
          else
          bif (eqI x0 92) then
            bif (eqI x0 92) then
              some (4, ())
            else
            some (0, ())
          else
          bif (eqI x0 39) then
            bif (eqI x0 39) then
              some (4, ())
            else
            some (0, ())
          else
          bif (eqI x0 34) then
            bif (eqI x0 34) then
              some (4, ())
            else
            some (0, ())
          else
          bif (eqI x0 96) then
            bif (eqI x0 96) then
              some (4, ())
            else
            some (0, ())
          else
          bif (eqI x0 36) then
            some (4, ())
          else
          some (0, ())
        else
        bif (eqI x0 62) then
          bif (eqI x0 62) then
            some (3, ())
          else
          bif (eqI x0 92) then
            bif (eqI x0 92) then
              some (4, ())
            else
            some (0, ())
          else
          bif (eqI x0 39) then
            bif (eqI x0 39) then
              some (4, ())
            else
            some (0, ())
          else
          bif (eqI x0 34) then
            bif (eqI x0 34) then
              some (4, ())
            else
            some (0, ())
          else
          bif (eqI x0 96) then
            bif (eqI x0 96) then
              some (4, ())
            else
            some (0, ())
          else
          bif (eqI x0 36) then
            some (4, ())
          else
          some (0, ())
        else
        bif (eqI x0 40) then
          bif (eqI x0 40) then
            some (3, ())
          else
          bif (eqI x0 92) then
            bif (eqI x0 92) then
              some (4, ())
            else
            some (0, ())
          else
          bif (eqI x0 39) then
            bif (eqI x0 39) then
              some (4, ())
            else
            some (0, ())
          else
          bif (eqI x0 34) then
            bif (eqI x0 34) then
              some (4, ())
            else
            some (0, ())
          else
          bif (eqI x0 96) then
            bif (eqI x0 96) then
              some (4, ())
            else
            some (0, ())
          else
          bif (eqI x0 36) then
            some (4, ())
          else
          some (0, ())
        else
        bif (eqI x0 41) then
          some (3, ())
        else
        bif (eqI x0 92) then
          bif (eqI x0 92) then
            some (4, ())
          else
          some (0, ())
        else
        bif (eqI x0 39) then
          bif (eqI x0 39) then
            some (4, ())
          else
          some (0, ())
        else
        bif (eqI x0 34) then
          bif (eqI x0 34) then
            some (4, ())
          else
          some (0, ())
        else
        bif (eqI x0 96) then
          bif (eqI x0 96) then
            some (4, ())
          else
          some (0, ())
        else
        bif (eqI x0 36) then
          some (4, ())
        else
        some (0, ())
      else
      bif (eqI x0 95) then
        some (5, ())
      else
      bif (eqI x0 124) then
        bif (eqI x0 124) then
          some (3, ())
        else
        bif (eqI x0 92) then
          bif (eqI x0 92) then
            some (4, ())
          else
          some (0, ())
        else
        bif (eqI x0 39) then
          bif (eqI x0 39) then
            some (4, ())
          else
          some (0, ())
        else
        bif (eqI x0 34) then
          bif (eqI x0 34) then
            some (4, ())
          else
          some (0, ())
        else
        bif (eqI x0 96) then
          bif (eqI x0 96) then
            some (4, ())
          else
          some (0, ())
        else
        bif (eqI x0 36) then
          some (4, ())
        else
        some (0, ())
      else
      bif (eqI x0 38) then
        bif (eqI x0 38) then
          some (3, ())
        else
        bif (eqI x0 92) then
          bif (eqI x0 92) then
            some (4, ())
          else
          some (0, ())
        else
        bif (eqI x0 39) then
          bif (eqI x0 39) then
            some (4, ())
          else
          some (0, ())
        else
        bif (eqI x0 34) then
          bif (eqI x0 34) then
            some (4, ())
          else
          some (0, ())
        else
        bif (eqI x0 96) then
          bif (eqI x0 96) then
            some (4, ())
          else
          some (0, ())
        else
        bif (eqI x0 36) then
          some (4, ())
        else
        some (0, ())
      else
      bif (eqI x0 59) then
        bif (eqI x0 59) then
          some (3, ())
        else
        bif (eqI x0 92) then
          bif (eqI x0 92) then
            some (4, ())
          else
          some (0, ())
        else
        bif (eqI x0 39) then
          bif (eqI x0 39) then
            some (4, ())
          else
          some (0, ())
        else
        bif (eqI x0 34) then
          bif (eqI x0 34) then
            some (4, ())
          else
          some (0, ())
        else
        bif (eqI x0 96) then
          bif (eqI x0 96) then
            some (4, ())
          else
          some (0, ())
        else
        bif (eqI x0 36) then
          some (4, ())
        else
        some (0, ())
      else
      bif (eqI x0 60) then
        bif (eqI x0 60) then
          some (3, ())
        else
        bif (eqI x0 92) then
          bif (eqI x0 92) then
            some (4, ())
          else
          some (0, ())
        else
        bif (eqI x0 39) then
          bif (eqI x0 39) then
            some (4, ())
          else
          some (0, ())
        else
        bif (eqI x0 34) then
          bif (eqI x0 34) then
            some (4, ())
          else
          some (0, ())
        else
        bif (eqI x0 96) then
          bif (eqI x0 96) then
            some (4, ())
          else
          some (0, ())
        else
        bif (eqI x0 36) then
          some (4, ())
        else
        some (0, ())
      else
      bif (eqI x0 62) then
        bif (eqI x0 62) then
          some (3, ())
        else
        bif (eqI x0 92) then
          bif (eqI x0 92) then
            some (4, ())
          else
          some (0, ())
        else
        bif (eqI x0 39) then
          bif (eqI x0 39) then
            some (4, ())
          else
          some (0, ())
        else
        bif (eqI x0 34) then
          bif (eqI x0 34) then
            some (4, ())
          else
          some (0, ())
        else
        bif (eqI x0 96) then
          bif (eqI x0 96) then
            some (4, ())
          else
          some (0, ())
        else
        bif (eqI x0 36) then
          some (4, ())
        else
        some (0, ())
      else
      bif (eqI x0 40) then
        bif (eqI x0 40) then
          some (3, ())
        else
        bif (eqI x0 92) then
          bif (eqI x0 92) then
            some (4, ())
          else
          some (0, ())
        else
        bif (eqI x0 39) then
          bif (eqI x0 39) then
            some (4, ())
          else
          some (0, ())
        else
        bif (eqI x0 34) then
          bif (eqI x0 34) then
            some (4, ())
          else
          some (0, ())
        else
        bif (eqI x0 96) then
          bif (eqI x0 96) then
            some (4, ())
          else
          some (0, ())
        else
        bif (eqI x0 36) then
          some (4, ())
        else
        some (0, ())
      else
      bif (eqI x0 41) then
        some (3, ())
      else
      bif (eqI x0 92) then
        bif (eqI x0 92) then
          some (4, ())
        else
        some (0, ())
      else
      bif (eqI x0 39) then
        bif (eqI x0 39) then
          some (4, ())
        else
        some (0, ())
      else
      bif (eqI x0 34) then
        bif (eqI x0 34) then
          some (4, ())
        else
        some (0, ())
      else
      bif (eqI x0 96) then
        bif (eqI x0 96) then
          some (4, ())
        else
        some (0, ())
      else
      bif (eqI x0 36) then
        some (4, ())
      else
      some (0, ())
    else
    bif (leI 97 x0) then
      bif (leI x0 122) then
        bif (leI x0 122) then
          some (5, ())
        else
        bif (eqI x0 124) then
          bif (eqI x0 124) then
            some (3, ())
          else
          bif (eqI x0 92) then
            bif (eqI x0 92) then
              some (4, ())
            else
            some (0, ())
          else
          bif (eqI x0 39) then
            bif (eqI x0 39) then
              some (4, ())
            else
            some (0, ())
          else
          bif (eqI x0 34) then
            bif (eqI x0 34) then
              some (4, ())
            else
            some (0, ())
          else
          bif (eqI x0 96) then
            bif (eqI x0 96) then
              some (4, ())
            else
            some (0, ())
          else
          bif (eqI x0 36) then
            some (4, ())
          else
          some (0, ())
        else
        bif (eqI x0 38) then
          bif (eqI x0 38) then
            some (3, ())
          else
          bif (eqI x0 92) then
            bif (eqI x0 92) then
              some (4, ())
            else
            some (0, ())
          else
          bif (eqI x0 39) then
            bif (eqI x0 39) then
              some (4, ())
            else
            some (0, ())
          else
          bif (eqI x0 34) then
            bif (eqI x0 34) then
              some (4, ())
            else
            some (0, ())
          else
          bif (eqI x0 96) then
            bif (eqI x0 96) then
              some (4, ())
            else
            some (0, ())
          else
          bif (eqI x0 36) then
            some (4, ())
          else
          some (0, ())
        else
        bif (eqI x0 59) then
          bif (eqI x0 59) then
            some (3, ())
          else
          bif (eqI x0 92) then
            bif (eqI x0 92) then
              some (4, ())
            else
            some (0, ())
          else
          bif (eqI x0 39) then
            bif (eqI x0 39) then
              some (4, ())
            else
            some (0, ())
          else
          bif (eqI x0 34) then
            bif (eqI x0 34) then
              some (4, ())
            else
            some (0, ())
          else
          bif (eqI x0 96) then
            bif (eqI x0 96) then
              some (4, ())
            else
            some (0, ())
          else
          bif (eqI x0 36) then
            some (4, ())
          else
          some (0, ())
        else
        bif (eqI x0 60) then
          bif (eqI x0 60) then
            some (3, ())
          else
          bif (eqI x0 92) then
            bif (eqI x0 92) then
              some (4, ())
            else
            some (0, ())
          else
          bif (eqI x0 39) then
            bif (eqI x0 39) then
              some (4, ())
            else
            some (0, ())
          else
          bif (eqI x0 34) then
            bif (eqI x0 34) then
              some (4, ())
            else
            some (0, ())
          else
          bif (eqI x0 96) then
            bif (eqI x0 96) then
              some (4, ())
            else
            some (0, ())
          else
          bif (eqI x0 36) then
            some (4, ())
          else
          some (0, ())
        else
        bif (eqI x0 62) then
          bif (eqI x0 62) then
            some (3, ())
          else
          bif (eqI x0 92) then
            bif (eqI x0 92) then
              some (4, ())
            else
            some (0, ())
          else
          bif (eqI x0 39) then
            bif (eqI x0 39) then
              some (4, ())
            else
            some (0, ())
          else
          bif (eqI x0 34) then
            bif (eqI x0 34) then
              some (4, ())
            else
            some (0, ())
          else
          bif (eqI x0 96) then
            bif (eqI x0 96) then
              some (4, ())
            else
            some (0, ())
          else
          bif (eqI x0 36) then
            some (4, ())
          else
          some (0, ())
        else
        bif (eqI x0 40) then
          bif (eqI x0 40) then
            some (3, ())
          else
          bif (eqI x0 92) then
            bif (eqI x0 92) then
              some (4, ())
            else
            some (0, ())
          else
          bif (eqI x0 39) then
            bif (eqI x0 39) then
              some (4, ())
            else
            some (0, ())
          else
          bif (eqI x0 34) then
            bif (eqI x0 34) then
              some (4, ())
            else
            some (0, ())
          else
          bif (eqI x0 96) then
            bif (eqI x0 96) then
              some (4, ())
            else
            some (0, ())
          else
          bif (eqI x0 36) then
            some (4, ())
          else
          some (0, ())
        else
        bif (eqI x0 41) then
          some (3, ())
        else
        bif (eqI x0 92) then
          bif (eqI x0 92) then
            some (4, ())
          else
          some (0, ())
        else
        bif (eqI x0 39) then
          bif (eqI x0 39) then
            some (4, ())
          else
          some (0, ())
        else
        bif (eqI x0 34) then
          bif (eqI x0 34) then
            some (4, ())
          else
          some (0, ())
        else
        bif (eqI x0 96) then
          bif (eqI x0 96) then
            some (4, ())
          else
          some (0, ())
        else
        bif (eqI x0 36) then
          some (4, ())
        else
        some (0, ())
      else
      bif (leI 65 x0) then
        bif (leI x0 90) then
          bif (leI x0 90) then
            some (5, ())
          else
          bif (eqI x0 124) then
            bif (eqI x0 124) then
              some (3, ())
            else
            bif (eqI x0 92) then
              bif (eqI x0 92) then
                some (4, ())
              else
              some (0, ())
            else
            bif (eqI x0 39) then
              bif (eqI x0 39) then
                some (4, ())
              else
              some (0, ())
            else
            bif (eqI x0 34) then
              bif (eqI x0 34) then
                some (4, ())
              else
              some (0, ())
            else
            bif (eqI x0 96) then
              bif (eqI x0 96) then
                some (4, ())
              else
              some (0, ())
            else
            bif (eqI x0 36) then
              some (4, ())
            else
            some (0, ())
          else
          bif (eqI x0 38) then
            bif (eqI x0 38) then
              some (3, ())
            else
            bif (eqI x0 92) then
              bif (eqI x0 92) then
                some (4, ())
              else
              some (0, ())
            else
            bif (eqI x0 39) then
              bif (eqI x0 39) then
                some (4, ())
              else
              some (0, ())
            else
            bif (eqI x0 34) then
              bif (eqI x0 34) then
                some (4, ())
              else
              some (0, ())
            else
            bif (eqI x0 96) then
              bif (eqI x0 96) then
                some (4, ())
              else
              some (0, ())
            else
            bif (eqI x0 36) then
              some (4, ())
            else
            some (0, ())
          else
          bif (eqI x0 59) then
            bif (eqI x0 59) then
              some (3, ())
            else
            bif (eqI x0 92) then
              bif (eqI x0 92) then
                some (4, ())
              else
              some (0, ())
            else
            bif (eqI x0 39) then
              bif (eqI x0 39) then
                some (4, ())
              else
              some (0, ())
            else
            bif (eqI x0 34) then
              bif (eqI x0 34) then
                some (4, ())
              else
              some (0, ())
            else
            bif (eqI x0 96) then
              bif (eqI x0 96) then
                some (4, ())
              else
              some (0, ())
            else
            bif (eqI x0 36) then
              some (4, ())
            else
            some (0, ())
          else
          bif (eqI x0 60) then
            bif (eqI x0 60) then
              some (3, ())
            else
            bif (eqI x0 92) then
              bif (eqI x0 92) then
                some (4, ())
              else
              some (0, ())
            else
            bif (eqI x0 39) then
              bif (eqI x0 39) then
                some (4, ())
              else
              some (0, ())
            else
            bif (eqI x0 34) then
              bif (eqI x0 34) then
                some (4, ())
              else
              some (0, ())
            else
            bif (eqI x0 96) then
              bif (eqI x0 96) then
                some (4, ())
              else
              some (0, ())
            else
            bif (eqI x0 36) then
              some (4, ())
            else
            some (0, ())
          else
          bif (eqI x0 62) then
            bif (eqI x0 62) then
              some (3, ())
            else
            bif (eqI x0 92) then
              bif (eqI x0 92) then
                some (4, ())
              else
              some (0, ())
            else
            bif (eqI x0 39) then
              bif (eqI x0 39) then
                some (4, ())
              else
              some (0, ())
            else
            bif (eqI x0 34) then
              bif (eqI x0 34) then
                some (4, ())
              else
              some (0, ())
            else
            bif (eqI x0 96) then
              bif (eqI x0 96) then
                some (4, ())
              else
              some (0, ())
            else
            bif (eqI x0 36) then
              some (4, ())
            else
            some (0, ())
          else
          bif (eqI x0 40) then
            bif (eqI x0 40) then
              some (3, ())
            else
            bif (eqI x0 92) then
              bif (eqI x0 92) then
                some (4, ())
              else
              some (0, ())
            else
            bif (eqI x0 39) then
              bif (eqI x0 39) then
                some (4, ())
              else
              some (0, ())
            else
            bif (eqI x0 34) then
              bif (eqI x0 34) then
                some (4, ())
              else
              some (0, ())
            else
            bif (eqI x0 96) then
              bif (eqI x0 96) then
                some (4, ())
              else
              some (0, ())
            else
            bif (eqI x0 36) then
              some (4, ())
            else
            some (0, ())
          else
          bif (eqI x0 41) then
            some (3, ())
          else
          bif (eqI x0 92) then
            bif (eqI x0 92) then
              some (4, ())
            else
            some (0, ())
          else
          bif (eqI x0 39) then
            bif (eqI x0 39) then
              some (4, ())
            else
            some (0, ())
          else
          bif (eqI x0 34) then
            bif (eqI x0 34) then
              some (4, ())
            else
            some (0, ())
          else
          bif (eqI x0 96) then
            bif (eqI x0 96) then
              some (4, ())
            else
            some (0, ())
          else
          bif (eqI x0 36) then
            some (4, ())
          else
          some (0, ())
        else
        bif (eqI x0 95) then
          some (5, ())
        else
        bif (eqI x0 124) then
          bif (eqI x0 124) then
            some (3, ())
          else
          bif (eqI x0 92) then
            bif (eqI x0 92) then
              some (4, ())
            else
            some (0, ())
          else
          bif (eqI x0 39) then
            bif (eqI x0 39) then
              some (4, ())
            else
            some (0, ())
          else
          bif (eqI x0 34) then
            bif (eqI x0 34) then
              some (4, ())
            else
            some (0, ())
          else
          bif (eqI x0 96) then
            bif (eqI x0 96) then
              some (4, ())
            else
            some (0, ())
          else
          bif (eqI x0 36) then
            some (4, ())
          else
          some (0, ())
        else
        bif (eqI x0 38) then
          bif (eqI x0 38) then
            some (3, ())
          else
          bif (eqI x0 92) then
            bif (eqI x0 92) then
              some (4, ())
            else
            some (0, ())
          else
          bif (eqI x0 39) then
            bif (eqI x0 39) then
              some (4, ())
            else
            some (0, ())
          else
          bif (eqI x0 34) then
            bif (eqI x0 34) then
              some (4, ())
            else
            some (0, ())
          else
          bif (eqI x0 96) then
            bif (eqI x0 96) then
              some (4, ())
            else
            some (0, ())
          else
          bif (eqI x0 36) then
            some (4, ())
          else
          some (0, ())
        else
        bif (eqI x0 59) then
          bif (eqI x0 59) then
            some (3, ())
          else
          bif (eqI x0 92) then
            bif (eqI x0 92) then
              some (4, ())
            else
            some (0, ())
          else
          bif (eqI x0 39) then
            bif (eqI x0 39) then
              some (4, ())
            else
            some (0, ())
          else
          bif (eqI x0 34) then
            bif (eqI x0 34) then
              some (4, ())
            else
            some (0, ())
          else
          bif (eqI x0 96) then
            bif (eqI x0 96) then
              some (4, ())
            else
            some (0, ())
          else
          bif (eqI x0 36) then
            some (4, ())
          else
          some (0, ())
        else
        bif (eqI x0 60) then
          bif (eqI x0 60) then
            some (3, ())
          else
          bif (eqI x0 92) then
            bif (eqI x0 92) then
              some (4, ())
            else
            some (0, ())
          else
          bif (eqI x0 39) then
            bif (eqI x0 39) then
              some (4, ())
            else
            some (0, ())
          else
          bif (eqI x0 34) then
            bif (eqI x0 34) then
              some (4, ())
            else
            some (0, ())
          else
          bif (eqI x0 96) then
            bif (eqI x0 96) then
              some (4, ())
            else
            some (0, ())
          else
          bif (eqI x0 36) then
            some (4, ())
          else
          some (0, ())
        else
        bif (eqI x0 62) then
          bif (eqI x0 62) then
            some (3, ())
          else
          bif (eqI x0 92) then
            bif (eqI x0 92) then
              some (4, ())
            else
            some (0, ())
          else
          bif (eqI x0 39) then
            bif (eqI x0 39) then
              some (4, ())
            else
            some (0, ())
          else
          bif (eqI x0 34) then
            bif (eqI x0 34) then
              some (4, ())
            else
            some (0, ())
          else
          bif (eqI x0 96) then
            bif (eqI x0 96) then
              some (4, ())
            else
            some (0, ())
          else
          bif (eqI x0 36) then
            some (4, ())
          else
          some (0, ())
        else
        bif (eqI x0 40) then
          bif (eqI x0 40) then
            some (3, ())
          else
          bif (eqI x0 92) then
            bif (eqI x0 92) then
              some (4, ())
            else
            some (0, ())
          else
          bif (eqI x0 39) then
            bif (eqI x0 39) then
              some (4, ())
            else
            some (0, ())
          else
          bif (eqI x0 34) then
            bif (eqI x0 34) then
              some (4, ())
            else
            some (0, ())
          else
          bif (eqI x0 96) then
            bif (eqI x0 96) then
              some (4, ())
            else
            some (0, ())
          else
          bif (eqI x0 36) then
            some (4, ())
          else
          some (0, ())
        else
        bif (eqI x0 41) then
          some (3, ())
        else
        bif (eqI x0 92) then
          bif (eqI x0 92) then
            some (4, ())
          else
          some (0, ())
        else
        bif (eqI x0 39) then
          bif (eqI x0 39) then
            some (4, ())
          else
          some (0, ())
        else
        bif (eqI x0 34) then
          bif (eqI x0 34) then
            some (4, ())
          else
          some (0, ())
        else
        bif (eqI x0 96) then
          bif (eqI x0 96) then
            some (4, ())
          else
          some (0, ())
        else
        bif (eqI x0 36) then
          some (4, ())
        else
        some (0, ())
      else
      bif (eqI x0 95) then
        some (5, ())
      else
      bif (eqI x0 124) then
        bif (eqI x0 124) then
          some (3, ())
        else
        bif (eqI x0 92) then
          bif (eqI x0 92) then
            some (4, ())
          else
          some (0, ())
        else
        bif (eqI x0 39) then
          bif (eqI x0 39) then
            some (4, ())
          else
          some (0, ())
        else
        bif (eqI x0 34) then
          bif (eqI x0 34) then
            some (4, ())
          else
          some (0, ())
        else
        bif (eqI x0 96) then
          bif (eqI x0 96) then
            some (4, ())
          else
          some (0, ())
        else
        bif (eqI x0 36) then
          some (4, ())
        else
        some (0, ())
      else
      bif (eqI x0 38) then
        bif (eqI x0 38) then
          some (3, ())
        else
        bif (eqI x0 92) then
          bif (eqI x0 92) then
            some (4, ())
          else
          some (0, ())
        else
        bif (eqI x0 39) then
          bif (eqI x0 39) then
            some (4, ())
          else
          some (0, ())
        else
        bif (eqI x0 34) then
          bif (eqI x0 34) then
            some (4, ())
          else
          some (0, ())
        else
        bif (eqI x0 96) then
          bif (eqI x0 96) then
            some (4, ())
          else
          some (0, ())
        else
        bif (eqI x0 36) then
          some (4, ())
        else
        some (0, ())
      else
      bif (eqI x0 59) then
        bif (eqI x0 59) then
          some (3, ())
        else
        bif (eqI x0 92) then
          bif (eqI x0 92) then
            some (4, ())
          else
          some (0, ())
        else
        bif (eqI x0 39) then
          bif (eqI x0 39) then
            some (4, ())
          else
          some (0, ())
        else
        bif (eqI x0 34) then
          bif (eqI x0 34) then
            some (4, ())
          else
          some (0, ())
        else
        bif (eqI x0 96) then
          bif (eqI x0 96) then
            some (4, ())
          else
          some (0, ())
        else
        bif (eqI x0 36) then
          some (4, ())
        else
        some (0, ())
      else
      bif (eqI x0 60) then
        bif (eqI x0 60) then
          some (3, ())
        else
        bif (eqI x0 92) then
          bif (eqI x0 92) then
            some (4, ())
          else
          some (0, ())
        else
        bif (eqI x0 39) then
          bif (eqI x0 39) then
            some (4, ())
          else
          some (0, ())
        else
        bif (eqI x0 34) then
          bif (eqI x0 34) then
            some (4, ())
          else
          some (0, ())
        else
        bif (eqI x0 96) then
          bif (eqI x0 96) then
            some (4, ())
          else
          some (0, ())
        else
        bif (eqI x0 36) then
          some (4, ())
        else
        some (0, ())
      else
      bif (eqI x0 62) then
        bif (eqI x0 62) then
          some (3, ())
        else
        bif (eqI x0 92) then
          bif (eqI x0 92) then
            some (4, ())
          else
          some (0, ())
        else
        bif (eqI x0 39) then
          bif (eqI x0 39) then
            some (4, ())
          else
          some (0, ())
        else
        bif (eqI x0 34) then
          bif (eqI x0 34) then
            some (4, ())
          else
          some (0, ())
        else
        bif (eqI x0 96) then
          bif (eqI x0 96) then
            some (4, ())
          else
          some (0, ())
        else
        bif (eqI x0 36) then
          some (4, ())
        else
        some (0, ())
      else
      bif (eqI x0 40) then
        bif (eqI x0 40) then
          some (3, ())
        else
        bif (eqI x0 92) then
          bif (eqI x0 92) then
            some (4, ())
          else
          some (0, ())
        else
        bif (eqI x0 39) then
          bif (eqI x0 39) then
            some (4, ())
          else
          some (0, ())
        else
        bif (eqI x0 34) then
          bif (eqI x0 34) then
            some (4, ())
          else
          some (0, ())
        else
        bif (eqI x0 96) then
          bif (eqI x0 96) then
            some (4, ())
          else
          some (0, ())
        else
        bif (eqI x0 36) then
          some (4, ())
        else
        some (0, ())
      else
      bif (eqI x0 41) then
        some (3, ())
      else
      bif (eqI x0 92) then
        bif (eqI x0 92) then
          some (4, ())
        else
        some (0, ())
      else
      bif (eqI x0 39) then
        bif (eqI x0 39) then
          some (4, ())
        else
        some (0, ())
      else
      bif (eqI x0 34) then
        bif (eqI x0 34) then
          some (4, ())
        else
        some (0, ())
      else
      bif (eqI x0 96) then
        bif (eqI x0 96) then
          some (4, ())
        else
        some (0, ())
      else
      bif (eqI x0 36) then
        some (4, ())
      else
      some (0, ())
    else
    bif (leI 65 x0) then
      bif (leI x0 90) then
        bif (leI x0 90) then
          some (5, ())
        else
        bif (eqI x0 124) then
          bif (eqI x0 124) then
            some (3, ())
          else
          bif (eqI x0 92) then
            bif (eqI x0 92) then
              some (4, ())
            else
            some (0, ())
          else
          bif (eqI x0 39) then
            bif (eqI x0 39) then
              some (4, ())
            else
            some (0, ())
          else
          bif (eqI x0 34) then
            bif (eqI x0 34) then
              some (4, ())
            else
            some (0, ())
          else
          bif (eqI x0 96) then
            bif (eqI x0 96) then
              some (4, ())
            else
            some (0, ())
          else
          bif (eqI x0 36) then
            some (4, ())
          else
          some (0, ())
        else
        bif (eqI x0 38) then
          bif (eqI x0 38) then
            some (3, ())
          else
          bif (eqI x0 92) then
            bif (eqI x0 92) then
              some (4, ())
            else
            some (0, ())
          else
          bif (eqI x0 39) then
            bif (eqI x0 39) then
              some (4, ())
            else
            some (0, ())
          else
          bif (eqI x0 34) then
            bif (eqI x0 34) then
              some (4, ())
            else
            some (0, ())
          else
          bif (eqI x0 96) then
            bif (eqI x0 96) then
              some (4, ())
            else
            some (0, ())
          else
          bif (eqI x0 36) then
            some (4, ())
          else
          some (0, ())
        else
        bif (eqI x0 59) then
          bif (eqI x0 59) then
            some (3, ())
          else
          bif (eqI x0 92) then
            bif (eqI x0 92) then
              some (4, ())
            else
            some (0, ())
          else
          bif (eqI x0 39) then
            bif (eqI x0 39) then
              some (4, ())
            else
            some (0, ())
          else
          bif (eqI x0 34) then
            bif (eqI x0 34) then
              some (4, ())
            else
            some (0, ())
          else
          bif (eqI x0 96) then
            bif (eqI x0 96) then
              some (4, ())
            else
            some (0, ())
          else
          bif (eqI x0 36) then
            some (4, ())
          else
          some (0, ())
        else
        bif (eqI x0 60) then
          bif (eqI x0 60) then
            some (3, ())
          else
          bif (eqI x0 92) then
            bif (eqI x0 92) then
              some (4, ())
            else
            some (0, ())
          else
          bif (eqI x0 39) then
            bif (eqI x0 39) then
              some (4, ())
            else
            some (0, ())
          else
          bif (eqI x0 34) then
            bif (eqI x0 34) then
              some (4, ())
            else
            some (0, ())
          else
          bif (eqI x0 96) then
            bif (eqI x0 96) then
              some (4, ())
            else
            some (0, ())
          else
          bif (eqI x0 36) then
            some (4, ())
          else
          some (0, ())
        else
        bif (eqI x0 62) then
          bif (eqI x0 62) then
            some (3, ())
          else
          bif (eqI x0 92) then
            bif (eqI x0 92) then
              some (4, ())
            else
            some (0, ())
          else
          bif (eqI x0 39) then
            bif (eqI x0 39) then
              some (4, ())
            else
            some (0, ())
          else
          bif (eqI x0 34) then
            bif (eqI x0 34) then
              some (4, ())
            else
            some (0, ())
          else
          bif (eqI x0 96) then
            bif (eqI x0 96) then
              some (4, ())
            else
            some (0, ())
          else
          bif (eqI x0 36) then
            some (4, ())
          else
          some (0, ())
        else
        bif (eqI x0 40) then
          bif (eqI x0 40) then
            some (3, ())
          else
          bif (eqI x0 92) then
            bif (eqI x0 92) then
              some (4, ())
            else
            some (0, ())
          else
          bif (eqI x0 39) then
            bif (eqI x0 39) then
              some (4, ())
            else
            some (0, ())
          else
          bif (eqI x0 34) then
            bif (eqI x0 34) then
              some (4, ())
            else
            some (0, ())
          else
          bif (eqI x0 96) then
            bif (eqI x0 96) then
              some (4, ())
            else
            some (0, ())
          else
          bif (eqI x0 36) then
            some (4, ())
          else
          some (0, ())
        else
        bif (eqI x0 41) then
          some (3, ())
        else
        bif (eqI x0 92) then
          bif (eqI x0 92) then
            some (4, ())
          else
          some (0, ())
        else
        bif (eqI x0 39) then
          bif (eqI x0 39) then
            some (4, ())
          else
          some (0, ())
        else
        bif (eqI x0 34) then
          bif (eqI x0 34) then
            some (4, ())
          else
          some (0, ())
        else
        bif (eqI x0 96) then
          bif (eqI x0 96) then
            some (4, ())
          else
          some (0, ())
        else
        bif (eqI x0 36) then
          some (4, ())
        else
        some (0, ())
      else
      bif (eqI x0 95) then
        some (5, ())
      else
      bif (eqI x0 124) then
        bif (eqI x0 124) then
          some (3, ())
        else
        bif (eqI x0 92) then
          bif (eqI x0 92) then
            some (4, ())
          else
          some (0, ())
        else
        bif (eqI x0 39) then
          bif (eqI x0 39) then
            some (4, ())
          else
          some (0, ())
        else
        bif (eqI x0 34) then
          bif (eqI x0 34) then
            some (4, ())
          else
          some (0, ())
        else
        bif (eqI x0 96) then
          bif (eqI x0 96) then
            some (4, ())
          else
          some (0, ())
        else
        bif (eqI x0 36) then
          some (4, ())
        else
        some (0, ())
      else
      bif (eqI x0 38) then
        bif (eqI x0 38) then
          some (3, ())
        else
        bif (eqI x0 92) then
          bif (eqI x0 92) then
            some (4, ())
          else
          some (0, ())
        else
        bif (eqI x0 39) then
          bif (eqI x0 39) then
            some (4, ())
          else
          some (0, ())
        else
        bif (eqI x0 34) then
          bif (eqI x0 34) then
            some (4, ())
          else
          some (0, ())
        else
        bif (eqI x0 96) then
          bif (eqI x0 96) then
            some (4, ())
          else
          some (0, ())
        else
        bif (eqI x0 36) then
          some (4, ())
        else
        some (0, ())
      else
      bif (eqI x0 59) then
        bif (eqI x0 59) then
          some (3, ())
        else
        bif (eqI x0 92) then
          bif (eqI x0 92) then
            some (4, ())
          else
          some (0, ())
        else
        bif (eqI x0 39) then
          bif (eqI x0 39) then
            some (4, ())
          else
          some (0, ())
        else
        bif (eqI x0 34) then
          bif (eqI x0 34) then
            some (4, ())
          else
          some (0, ())
        else
        bif (eqI x0 96) then
          bif (eqI x0 96) then
            some (4, ())
          else
          some (0, ())
        else
        bif (eqI x0 36) then
          some (4, ())
        else
        some (0, ())
      else
      bif (eqI x0 60) then
        bif (eqI x0 60) then
          some (3, ())
        else
        bif (eqI x0 92) then
          bif (eqI x0 92) then
            some (4, ())
          else
          some (0, ())
        else
        bif (eqI x0 39) then
          bif (eqI x0 39) then
            some (4, ())
          else
          some (0, ())
        else
        bif (eqI x0 34) then
          bif (eqI x0 34) then
            some (4, ())
          else
          some (0, ())
        else
        bif (eqI x0 96) then
          bif (eqI x0 96) then
            some (4, ())
          else
          some (0, ())
        else
        bif (eqI x0 36) then
          some (4, ())
        else
        some (0, ())
      else
      bif (eqI x0 62) then
        bif (eqI x0 62) then
          some (3, ())
        else
        bif (eqI x0 92) then
          bif (eqI x0 92) then
            some (4, ())
          else
          some (0, ())
        else
        bif (eqI x0 39) then
          bif (eqI x0 39) then
            some (4, ())
          else
          some (0, ())
        else
        bif (eqI x0 34) then
          bif (eqI x0 34) then
            some (4, ())
          else
          some (0, ())
        else
        bif (eqI x0 96) then
          bif (eqI x0 96) then
            some (4, ())
          else
          some (0, ())
        else
        bif (eqI x0 36) then
          some (4, ())
        else
        some (0, ())
      else
      bif (eqI x0 40) then
        bif (eqI x0 40) then
          some (3, ())
        else
        bif (eqI x0 92) then
          bif (eqI x0 92) then
            some (4, ())
          else
          some (0, ())
        else
        bif (eqI x0 39) then
          bif (eqI x0 39) then
            some (4, ())
          else
          some (0, ())
        else
        bif (eqI x0 34) then
          bif (eqI x0 34) then
            some (4, ())
          else
          some (0, ())
        else
        bif (eqI x0 96) then
          bif (eqI x0 96) then
            some (4, ())
          else
          some (0, ())
        else
        bif (eqI x0 36) then
          some (4, ())
        else
        some (0, ())
      else
      bif (eqI x0 41) then
        some (3, ())
      else
      bif (eqI x0 92) then
        bif (eqI x0 92) then
          some (4, ())
        else
        some (0, ())
      else
      bif (eqI x0 39) then
        bif (eqI x0 39) then
          some (4, ())
        else
        some (0, ())
      else
      bif (eqI x0 34) then
        bif (eqI x0 34) then
          some (4, ())
        else
        some (0, ())
      else
      bif (eqI x0 96) then
        bif (eqI x0 96) then
          some (4, ())
        else
        some (0, ())
      else
      bif (eqI x0 36) then
        some (4, ())
      else
      some (0, ())
    else
    bif (eqI x0 95) then
      some (5, ())
    else
    bif (eqI x0 124) then
      bif (eqI x0 124) then
        some (3, ())
      else
      bif (eqI x0 92) then
        bif (eqI x0 92) then
          some (4, ())
        else
        some (0, ())
      else
      bif (eqI x0 39) then
        bif (eqI x0 39) then
          some (4, ())
        else
        some (0, ())
      else
      bif (eqI x0 34) then
        bif (eqI x0 34) then
          some (4, ())
        else
        some (0, ())
      else
      bif (eqI x0 96) then
        bif (eqI x0 96) then
          some (4, ())
        else
        some (0, ())
      else
      bif (eqI x0 36) then
        some (4, ())
      else
      some (0, ())
    else
    bif (eqI x0 38) then
      bif (eqI x0 38) then
        some (3, ())
      else
      bif (eqI x0 92) then
        bif (eqI x0 92) then
          some (4, ())
        else
        some (0, ())
      else
      bif (eqI x0 39) then
        bif (eqI x0 39) then
          some (4, ())
        else
        some (0, ())
      else
      bif (eqI x0 34) then
        bif (eqI x0 34) then
          some (4, ())
        else
        some (0, ())
      else
      bif (eqI x0 96) then
        bif (eqI x0 96) then
          some (4, ())
        else
        some (0, ())
      else
      bif (eqI x0 36) then
        some (4, ())
      else
      some (0, ())
    else
    bif (eqI x0 59) then
      bif (eqI x0 59) then
        some (3, ())
      else
      bif (eqI x0 92) then
        bif (eqI x0 92) then
          some (4, ())
        else
        some (0, ())
      else
      bif (eqI x0 39) then
        bif (eqI x0 39) then
          some (4, ())
        else
        some (0, ())
      else
      bif (eqI x0 34) then
        bif (eqI x0 34) then
          some (4, ())
        else
        some (0, ())
      else
      bif (eqI x0 96) then
        bif (eqI x0 96) then
          some (4, ())
        else
        some (0, ())
      else
      bif (eqI x0 36) then
        some (4, ())
      else
      some (0, ())
    else
    bif (eqI x0 60) then
      bif (eqI x0 60) then
        some (3, ())
      else
      bif (eqI x0 92) then
        bif (eqI x0 92) then
          some (4, ())
        else
        some (0, ())
      else
      bif (eqI x0 39) then
        bif (eqI x0 39) then
          some (4, ())
        else
        some (0, ())
      else
      bif (eqI x0 34) then
        bif (eqI x0 34) then
          some (4, ())
        else
        some (0, ())
      else
      bif (eqI x0 96) then
        bif (eqI x0 96) then
          some (4, ())
        else
        some (0, ())
      else
      bif (eqI x0 36) then
        some (4, ())
      else
      some (0, ())
    else
    bif (eqI x0 62) then
      bif (eqI x0 62) then
        some (3, ())
      else
      bif (eqI x0 92) then
        bif (eqI x0 92) then
          some (4, ())
        else
        some (0, ())
      else
      bif (eqI x0 39) then
        bif (eqI x0 39) then
          some (4, ())
        else
        some (0, ())
      else
      bif (eqI x0 34) then
        bif (eqI x0 34) then
          some (4, ())
        else
        some (0, ())
      else
      bif (eqI x0 96) then
        bif (eqI x0 96) then
          some (4, ())
        else
        some (0, ())
      else
      bif (eqI x0 36) then
        some (4, ())
      else
      some (0, ())
    else
    bif (eqI x0 40) then
      bif (eqI x0 40) then
        some (3, ())
      else
      bif (eqI x0 92) then
        bif (eqI x0 92) then
          some (4, ())
        else
        some (0, ())
      else
      bif (eqI x0 39) then
        bif (eqI x0 39) then
          some (4, ())
        else
        some (0, ())
      else
      bif (eqI x0 34) then
        bif (eqI x0 34) then
          some (4, ())
        else
        some (0, ())
      else
      bif (eqI x0 96) then
        bif (eqI x0 96) then
          some (4, ())
        else
        some (0, ())
      else
      bif (eqI x0 36) then
        some (4, ())
      else
      some (0, ())
    else
    bif (eqI x0 41) then
      some (3, ())
    else
    bif (eqI x0 92) then
      bif (eqI x0 92) then
        some (4, ())
      else
      some (0, ())
    else
    bif (eqI x0 39) then
      bif (eqI x0 39) then
        some (4, ())
      else
      some (0, ())
    else
    bif (eqI x0 34) then
      bif (eqI x0 34) then
        some (4, ())
      else
      some (0, ())
    else
    bif (eqI x0 96) then
      bif (eqI x0 96) then
        some (4, ())
      else
      some (0, ())
    else
    bif (eqI x0 36) then
      some (4, ())
    else
    some (0, ())
  else
  bif (eqI x0 9) then
    some (1, ())
  else
  bif (eqI x0 10) then
    some (2, ())
  else
  bif (leI 48 x0) then
    bif (leI x0 57) then
      some (6, ())
    else
    bif (leI 97 x0) then
      bif (leI x0 122) then
        bif (leI x0 122) then
          some (5, ())
        else
        bif (eqI x0 124) then
          bif (eqI x0 124) then
            some (3, ())
          else
          bif (eqI x0 92) then
            bif (eqI x0 92) then
              some (4, ())
            else
            some (0, ())
          else
          bif (eqI x0 39) then
            bif (eqI x0 39) then
              some (4, ())
            else
            some (0, ())
          else
          bif (eqI x0 34) then
            bif (eqI x0 34) then
              some (4, ())
            else
            some (0, ())
          else
          bif (eqI x0 96) then
            bif (eqI x0 96) then
              some (4, ())
            else
            some (0, ())
          else
          bif (eqI x0 36) then
            some (4, ())
          else
          some (0, ())
        else
        bif (eqI x0 38) then
          bif (eqI x0 38) then
            some (3, ())
          else
          bif (eqI x0 92) then
            bif (eqI x0 92) then
              some (4, ())
            else
            some (0, ())
          else
          bif (eqI x0 39) then
            bif (eqI x0 39) then
              some (4, ())
            else
            some (0, ())
          else
          bif (eqI x0 34) then
            bif (eqI x0 34) then
              some (4, ())
            else
            some (0, ())
          else
          bif (eqI x0 96) then
            bif (eqI x0 96) then
              some (4, ())
            else
            some (0, ())
          else
          bif (eqI x0 36) then
            some (4, ())
          else
          some (0, ())
        else
        bif (eqI x0 59) then
          bif (eqI x0 59) then
            some (3, ())
          else
          bif (eqI x0 92) then
            bif (eqI x0 92) then
              some (4, ())
            else
            some (0, ())
          else
          bif (eqI x0 39) then
            bif (eqI x0 39) then
              some (4, ())
            else
            some (0, ())
          else
          bif (eqI x0 34) then
            bif (eqI x0 34) then
              some (4, ())
            else
            some (0, ())
          else
          bif (eqI x0 96) then
            bif (eqI x0 96) then
              some (4, ())
            else
            some (0, ())
          else
          bif (eqI x0 36) then
            some (4, ())
          else
          some (0, ())
        else
        bif (eqI x0 60) then
          bif (eqI x0 60) then
            some (3, ())
          else
          bif (eqI x0 92) then
            bif (eqI x0 92) then
              some (4, ())
            else
            some (0, ())
          else
          bif (eqI x0 39) then
            bif (eqI x0 39) then
              some (4, ())
            else
            some (0, ())
          else
          bif (eqI x0 34) then
            bif (eqI x0 34) then
              some (4, ())
            else
            some (0, ())
          else
          bif (eqI x0 96) then
            bif (eqI x0 96) then
              some (4, ())
            else
            some (0, ())
          else
          bif (eqI x0 36) then
            some (4, ())
          else
          some (0, ())
        else
        bif (eqI x0 62) then
          bif (eqI x0 62) then
            some (3, ())
          else
          bif (eqI x0 92) then
            bif (eqI x0 92) then
              some (4, ())
            else
            some (0, ())
          else
          bif (eqI x0 39) then
            bif (eqI x0 39) then
              some (4, ())
            else
            some (0, ())
          else
          bif (eqI x0 34) then
            bif (eqI x0 34) then
              some (4, ())
            else
            some (0, ())
          else
          bif (eqI x0 96) then
            bif (eqI x0 96) then
              some (4, ())
            else
            some (0, ())
          else
          bif (eqI x0 36) then
            some (4, ())
          else
          some (0, ())
        else
        bif (eqI x0 40) then
          bif (eqI x0 40) then
            some (3, ())
          else
          bif (eqI x0 92) then
            bif (eqI x0 92) then
              some (4, ())
            else
            some (0, ())
          else
          bif (eqI x0 39) then
            bif (eqI x0 39) then
              some (4, ())
            else
            some (0, ())
          else
          bif (eqI x0 34) then
            bif (eqI x0 34) then
              some (4, ())
            else
            some (0, ())
          else
          bif (eqI x0 96) then
            bif (eqI x0 96) then
              some (4, ())
            else
            some (0, ())
          else
          bif (eqI x0 36) then
            some (4, ())
          else
          some (0, ())
        else
        bif (eqI x0 41) then
          some (3, ())
        else
        bif (eqI x0 92) then
          bif (eqI x0 92) then
            some (4, ())
          else
          some (0, ())
        else
        bif (eqI x0 39) then
          bif (eqI x0 39) then
            some (4, ())
          else
          some (0, ())
        else
        bif (eqI x0 34) then
          bif (eqI x0 34) then
            some (4, ())
          else
          some (0, ())
        else
        bif (eqI x0 96) then
          bif (eqI x0 96) then
            some (4, ())
          else
          some (0, ())
        else
        bif (eqI x0 36) then
          some (4, ())
        else
        some (0, ())
      else
      bif (leI 65 x0) then
        bif (leI x0 90) then
          bif (leI x0 90) then
            some (5, ())
          else
          bif (eqI x0 124) then
            bif (eqI x0 124) then
              some (3, ())
            else
            bif (eqI x0 92) then
              bif (eqI x0 92) then
                some (4, ())
              else
              some (0, ())
            else
            bif (eqI x0 39) then
              bif (eqI x0 39) then
                some (4, ())
              else
              some (0, ())
            else
            bif (eqI x0 34) then
              bif (eqI x0 34) then
                some (4, ())
              else
              some (0, ())
            else
            bif (eqI x0 96) then
              bif (eqI x0 96) then
                some (4, ())
              else
              some (0, ())
            else
            bif (eqI x0 36) then
              some (4, ())
            else
            some (0, ())
          else
          bif (eqI x0 38) then
            bif (eqI x0 38) then
              some (3, ())
            else
            bif (eqI x0 92) then
              bif (eqI x0 92) then
                some (4, ())
              else
              some (0, ())
            else
            bif (eqI x0 39) then
              bif (eqI x0 39) then
                some (4, ())
              else
              some (0, ())
            else
            bif (eqI x0 34) then
              bif (eqI x0 34) then
                some (4, ())
              else
              some (0, ())
            else
            bif (eqI x0 96) then
              bif (eqI x0 96) then
                some (4, ())
              else
              some (0, ())
            else
            bif (eqI x0 36) then
              some (4, ())
            else
            some (0, ())
          else
          bif (eqI x0 59) then
            bif (eqI x0 59) then
              some (3, ())
            else
            bif (eqI x0 92) then
              bif (eqI x0 92) then
                some (4, ())
              else
              some (0, ())
            else
            bif (eqI x0 39) then
              bif (eqI x0 39) then
                some (4, ())
              else
              some (0, ())
            else
            bif (eqI x0 34) then
              bif (eqI x0 34) then
                some (4, ())
              else
              some (0, ())
            else
            bif (eqI x0 96) then
              bif (eqI x0 96) then
                some (4, ())
              else
              some (0, ())
            else
            bif (eqI x0 36) then
              some (4, ())
            else
            some (0, ())
          else
          bif (eqI x0 60) then
            bif (eqI x0 60) then
              some (3, ())
            else
            bif (eqI x0 92) then
              bif (eqI x0 92) then
                some (4, ())
              else
              some (0, ())
            else
            bif (eqI x0 39) then
              bif (eqI x0 39) then
                some (4, ())
              else
              some (0, ())
            else
            bif (eqI x0 34) then
              bif (eqI x0 34) then
                some (4, ())
              else
              some (0, ())
            else
            bif (eqI x0 96) then
              bif (eqI x0 96) then
                some (4, ())
              else
              some (0, ())
            else
            bif (eqI x0 36) then
              some (4, ())
            else
            some (0, ())
          else
          bif (eqI x0 62) then
            bif (eqI x0 62) then
              some (3, ())
            else
            bif (eqI x0 92) then
              bif (eqI x0 92) then
                some (4, ())
              else
              some (0, ())
            else
            bif (eqI x0 39) then
              bif (eqI x0 39) then
                some (4, ())
              else
              some (0, ())
            else
            bif (eqI x0 34) then
              bif (eqI x0 34) then
                some (4, ())
              else
              some (0, ())
            else
            bif (eqI x0 96) then
              bif (eqI x0 96) then
                some (4, ())
              else
              some (0, ())
            else
            bif (eqI x0 36) then
              some (4, ())
            else
            some (0, ())
          else
          bif (eqI x0 40) then
            bif (eqI x0 40) then
              some (3, ())
            else
            bif (eqI x0 92) then
              bif (eqI x0 92) then
                some (4, ())
              else
              some (0, ())
            else
            bif (eqI x0 39) then
              bif (eqI x0 39) then
                some (4, ())
              else
              some (0, ())
            else
            bif (eqI x0 34) then
              bif (eqI x0 34) then
                some (4, ())
              else
              some (0, ())
            else
            bif (eqI x0 96) then
              bif (eqI x0 96) then
                some (4, ())
              else
              some (0, ())
            else
            bif (eqI x0 36) then
              some (4, ())
            else
            some (0, ())
          else
          bif (eqI x0 41) then
            some (3, ())
          else
          bif (eqI x0 92) then
            bif (eqI x0 92) then
              some (4, ())
            else
            some (0, ())
          else
          bif (eqI x0 39) then
            bif (eqI x0 39) then
              some (4, ())
            else
            some (0, ())
          else
          bif (eqI x0 34) then
            bif (eqI x0 34) then
              some (4, ())
            else
            some (0, ())
          else
          bif (eqI x0 96) then
            bif (eqI x0 96) then
              some (4, ())
            else
            some (0, ())
          else
          bif (eqI x0 36) then
            some (4, ())
          else
          some (0, ())
        else
        bif (eqI x0 95) then
          some (5, ())
        else
        bif (eqI x0 124) then
          bif (eqI x0 124) then
            some (3, ())
          else
          bif (eqI x0 92) then
            bif (eqI x0 92) then
              some (4, ())
            else
            some (0, ())
          else
          bif (eqI x0 39) then
            bif (eqI x0 39) then
              some (4, ())
            else
            some (0, ())
          else
          bif (eqI x0 34) then
            bif (eqI x0 34) then
              some (4, ())
            else
            some (0, ())
          else
          bif (eqI x0 96) then
            bif (eqI x0 96) then
              some (4, ())
            else
            some (0, ())
          else
          bif (eqI x0 36) then
            some (4, ())
          else
          some (0, ())
        else
        bif (eqI x0 38) then
          bif (eqI x0 38) then
            some (3, ())
          else
          bif (eqI x0 92) then
            bif (eqI x0 92) then
              some (4, ())
            else
            some (0, ())
          else
          bif (eqI x0 39) then
            bif (eqI x0 39) then
              some (4, ())
            else
            some (0, ())
          else
          bif (eqI x0 34) then
            bif (eqI x0 34) then
              some (4, ())
            else
            some (0, ())
          else
          bif (eqI x0 96) then
            bif (eqI x0 96) then
              some (4, ())
            else
            some (0, ())
          else
          bif (eqI x0 36) then
            some (4, ())
          else
          some (0, ())
        else
        bif (eqI x0 59) then
          bif (eqI x0 59) then
            some (3, ())
          else
          bif (eqI x0 92) then
            bif (eqI x0 92) then
              some (4, ())
            else
            some (0, ())
          else
          bif (eqI x0 39) then
            bif (eqI x0 39) then
              some (4, ())
            else
            some (0, ())
          else
          bif (eqI x0 34) then
            bif (eqI x0 34) then
              some (4, ())
            else
            some (0, ())
          else
          bif (eqI x0 96) then
            bif (eqI x0 96) then
              some (4, ())
            else
            some (0, ())
          else
          bif (eqI x0 36) then
            some (4, ())
          else
          some (0, ())
        else
        bif (eqI x0 60) then
          bif (eqI x0 60) then
            some (3, ())
          else
          bif (eqI x0 92) then
            bif (eqI x0 92) then
              some (4, ())
            else
            some (0, ())
          else
          bif (eqI x0 39) then
            bif (eqI x0 39) then
              some (4, ())
            else
            some (0, ())
          else
          bif (eqI x0 34) then
            bif (eqI x0 34) then
              some (4, ())
            else
            some (0, ())
          else
          bif (eqI x0 96) then
            bif (eqI x0 96) then
              some (4, ())
            else
            some (0, ())
          else
          bif (eqI x0 36) then
            some (4, ())
          else
          some (0, ())
        else
        bif (eqI x0 62) then
          bif (eqI x0 62) then
            some (3, ())
          else
          bif (eqI x0 92) then
            bif (eqI x0 92) then
              some (4, ())
            else
            some (0, ())
          else
          bif (eqI x0 39) then
            bif (eqI x0 39) then
              some (4, ())
            else
            some (0, ())
          else
          bif (eqI x0 34) then
            bif (eqI x0 34) then
              some (4, ())
            else
            some (0, ())
          else
          bif (eqI x0 96) then
            bif (eqI x0 96) then
              some (4, ())
            else
            some (0, ())
          else
          bif (eqI x0 36) then
            some (4, ())
          else
          some (0, ())
        else
        bif (eqI x0 40) then
          bif (eqI x0 40) then
            some (3, ())
          else
          bif (eqI x0 92) then
            bif (eqI x0 92) then
              some (4, ())
            else
            some (0, ())
          else
          bif (eqI x0 39) then
            bif (eqI x0 39) then
              some (4, ())
            else
            some (0, ())
          else
          bif (eqI x0 34) then
            bif (eqI x0 34) then
              some (4, ())
            else
            some (0, ())
          else
          bif (eqI x0 96) then
            bif (eqI x0 96) then
              some (4, ())
            else
            some (0, ())
          else
          bif (eqI x0 36) then
            some (4, ())
          else
          some (0, ())
        else
        bif (eqI x0 41) then
          some (3, ())
        else
        bif (eqI x0 92) then
          bif (eqI x0 92) then
            some (4, ())
          else
          some (0, ())
        else
        bif (eqI x0 39) then
          bif (eqI x0 39) then
            some (4, ())
          else
          some (0, ())
        else
        bif (eqI x0 34) then
          bif (eqI x0 34) then
            some (4, ())
          else
          some (0, ())
        else
        bif (eqI x0 96) then
          bif (eqI x0 96) then
            some (4, ())
          else
          some (0, ())
        else
        bif (eqI x0 36) then
          some (4, ())
        else
        some (0, ())
      else
      bif (eqI x0 95) then
        some (5, ())
      else
      bif (eqI x0 124) then
        bif (eqI x0 124) then
          some (3, ())
        else
        bif (eqI x0 92) then
          bif (eqI x0 92) then
            some (4, ())
          else
          some (0, ())
        else
        bif (eqI x0 39) then
          bif (eqI x0 39) then
            some (4, ())
          else
          some (0, ())
        else
        bif (eqI x0 34) then
          bif (eqI x0 34) then
            some (4, ())
          else
          some (0, ())
        else
        bif (eqI x0 96) then
          bif (eqI x0 96) then
            some (4, ())
          else
          some (0, ())
        else
        bif (eqI x0 36) then
          some (4, ())
        else
        some (0, ())
      else
      bif (eqI x0 38) then
        bif (eqI x0 38) then
          some (3, ())
        else
        bif (eqI x0 92) then
          bif (eqI x0 92) then
            some (4, ())
          else
          some (0, ())
        else
        bif (eqI x0 39) then
          bif (eqI x0 39) then
            some (4, ())
          else
          some (0, ())
        else
        bif (eqI x0 34) then
          bif (eqI x0 34) then
            some (4, ())
          else
          some (0, ())
        else
        bif (eqI x0 96) then
          bif (eqI x0 96) then
            some (4, ())
          else
          some (0, ())
        else
        bif (eqI x0 36) then
          some (4, ())
        else
        some (0, ())
      else
      bif (eqI x0 59) then
        bif (eqI x0 59) then
          some (3, ())
        else
        bif (eqI x0 92) then
          bif (eqI x0 92) then
            some (4, ())
          else
          some (0, ())
        else
        bif (eqI x0 39) then
          bif (eqI x0 39) then
            some (4, ())
          else
          some (0, ())
        else
        bif (eqI x0 34) then
          bif (eqI x0 34) then
            some (4, ())
          else
          some (0, ())
        else
        bif (eqI x0 96) then
          bif (eqI x0 96) then
            some (4, ())
          else
          some (0, ())
        else
        bif (eqI x0 36) then
          some (4, ())
        else
        some (0, ())
      else
      bif (eqI x0 60) then
        bif (eqI x0 60) then
          some (3, ())
        else
        bif (eqI x0 92) then
          bif (eqI x0 92) then
            some (4, ())
          else
          some (0, ())
        else
        bif (eqI x0 39) then
          bif (eqI x0 39) then
            some (4, ())
          else
          some (0, ())
        else
        bif (eqI x0 34) then
          bif (eqI x0 34) then
            some (4, ())
          else
          some (0, ())
        else
        bif (eqI x0 96) then
          bif (eqI x0 96) then
            some (4, ())
          else
          some (0, ())
        else
        bif (eqI x0 36) then
          some (4, ())
        else
        some (0, ())
      else
      bif (eqI x0 62) then
        bif (eqI x0 62) then
          some (3, ())
        else
        bif (eqI x0 92) then
          bif (eqI x0 92) then
            some (4, ())
          else
          some (0, ())
        else
        bif (eqI x0 39) then
          bif (eqI x0 39) then
            some (4, ())
          else
          some (0, ())
        else
        bif (eqI x0 34) then
          bif (eqI x0 34) then
            some (4, ())
          else
          some (0, ())
        else
        bif (eqI x0 96) then
          bif (eqI x0 96) then
            some (4, ())
          else
          some (0, ())
        else
        bif (eqI x0 36) then
          some (4, ())
        else
        some (0, ())
      else
      bif (eqI x0 40) then
        bif (eqI x0 40) then
          some (3, ())
        else
        bif (eqI x0 92) then
          bif (eqI x0 92) then
            some (4, ())
          else
          some (0, ())
        else
        bif (eqI x0 39) then
          bif (eqI x0 39) then
            some (4, ())
          else
          some (0, ())
        else
        bif (eqI x0 34) then
          bif (eqI x0 34) then
            some (4, ())
          else
          some (0, ())
        else
        bif (eqI x0 96) then
          bif (eqI x0 96) then
            some (4, ())
          else
          some (0, ())
        else
        bif (eqI x0 36) then
          some (4, ())
        else
        some (0, ())
      else
      bif (eqI x0 41) then
        some (3, ())
      else
      bif (eqI x0 92) then
        bif (eqI x0 92) then
          some (4, ())
        else
        some (0, ())
      else
      bif (eqI x0 39) then
        bif (eqI x0 39) then
          some (4, ())
        else
        some (0, ())
      else
      bif (eqI x0 34) then
        bif (eqI x0 34) then
          some (4, ())
        else
        some (0, ())
      else
      bif (eqI x0 96) then
        bif (eqI x0 96) then
          some (4, ())
        else
        some (0, ())
      else
      bif (eqI x0 36) then
        some (4, ())
      else
      some (0, ())
    else
    bif (leI 65 x0) then
      bif (leI x0 90) then
        bif (leI x0 90) then
          some (5, ())
        else
        bif (eqI x0 124) then
          bif (eqI x0 124) then
            some (3, ())
          else
          bif (eqI x0 92) then
            bif (eqI x0 92) then
              some (4, ())
            else
            some (0, ())
          else
          bif (eqI x0 39) then
            bif (eqI x0 39) then
              some (4, ())
            else
            some (0, ())
          else
          bif (eqI x0 34) then
            bif (eqI x0 34) then
              some (4, ())
            else
            some (0, ())
          else
          bif (eqI x0 96) then
            bif (eqI x0 96) then
              some (4, ())
            else
            some (0, ())
          else
          bif (eqI x0 36) then
            some (4, ())
          else
          some (0, ())
        else
        bif (eqI x0 38) then
          bif (eqI x0 38) then
            some (3, ())
          else
          bif (eqI x0 92) then
            bif (eqI x0 92) then
              some (4, ())
            else
            some (0, ())
          else
          bif (eqI x0 39) then
            bif (eqI x0 39) then
              some (4, ())
            else
            some (0, ())
          else
          bif (eqI x0 34) then
            bif (eqI x0 34) then
              some (4, ())
            else
            some (0, ())
          else
          bif (eqI x0 96) then
            bif (eqI x0 96) then
              some (4, ())
            else
            some (0, ())
          else
          bif (eqI x0 36) then
            some (4, ())
          else
          some (0, ())
        else
        bif (eqI x0 59) then
          bif (eqI x0 59) then
            some (3, ())
          else
          bif (eqI x0 92) then
            bif (eqI x0 92) then
              some (4, ())
            else
            some (0, ())
          else
          bif (eqI x0 39) then
            bif (eqI x0 39) then
              some (4, ())
            else
            some (0, ())
          else
          bif (eqI x0 34) then
            bif (eqI x0 34) then
              some (4, ())
            else
            some (0, ())
          else
          bif (eqI x0 96) then
            bif (eqI x0 96) then
              some (4, ())
            else
            some (0, ())
          else
          bif (eqI x0 36) then
            some (4, ())
          else
          some (0, ())
        else
        bif (eqI x0 60) then
          bif (eqI x0 60) then
            some (3, ())
          else
          bif (eqI x0 92) then
            bif (eqI x0 92) then
              some (4, ())
            else
            some (0, ())
          else
          bif (eqI x0 39) then
            bif (eqI x0 39) then
              some (4, ())
            else
            some (0, ())
          else
          bif (eqI x0 34) then
            bif (eqI x0 34) then
              some (4, ())
            else
            some (0, ())
          else
          bif (eqI x0 96) then
            bif (eqI x0 96) then
              some (4, ())
            else
            some (0, ())
          else
          bif (eqI x0 36) then
            some (4, ())
          else
          some (0, ())
        else
        bif (eqI x0 62) then
          bif (eqI x0 62) then
            some (3, ())
          else
          bif (eqI x0 92) then
            bif (eqI x0 92) then
              some (4, ())
            else
            some (0, ())
          else
          bif (eqI x0 39) then
            bif (eqI x0 39) then
              some (4, ())
            else
            some (0, ())
          else
          bif (eqI x0 34) then
            bif (eqI x0 34) then
              some (4, ())
            else
            some (0, ())
          else
          bif (eqI x0 96) then
            bif (eqI x0 96) then
              some (4, ())
            else
            some (0, ())
          else
          bif (eqI x0 36) then
            some (4, ())
          else
          some (0, ())
        else
        bif (eqI x0 40) then
          bif (eqI x0 40) then
            some (3, ())
          else
          bif (eqI x0 92) then
            bif (eqI x0 92) then
              some (4, ())
            else
            some (0, ())
          else
          bif (eqI x0 39) then
            bif (eqI x0 39) then
              some (4, ())
            else
            some (0, ())
          else
          bif (eqI x0 34) then
            bif (eqI x0 34) then
              some (4, ())
            else
            some (0, ())
          else
          bif (eqI x0 96) then
            bif (eqI x0 96) then
              some (4, ())
            else
            some (0, ())
          else
          bif (eqI x0 36) then
            some (4, ())
          else
          some (0, ())
        else
        bif (eqI x0 41) then
          some (3, ())
        else
        bif (eqI x0 92) then
          bif (eqI x0 92) then
            some (4, ())
          else
          some (0, ())
        else
        bif (eqI x0 39) then
          bif (eqI x0 39) then
            some (4, ())
          else
          some (0, ())
        else
        bif (eqI x0 34) then
          bif (eqI x0 34) then
            some (4, ())
          else
          some (0, ())
        else
        bif (eqI x0 96) then
          bif (eqI x0 96) then
            some (4, ())
          else
          some (0, ())
        else
        bif (eqI x0 36) then
          some (4, ())
        else
        some (0, ())
      else
      bif (eqI x0 95) then
        some (5, ())
      else
      bif (eqI x0 124) then
        bif (eqI x0 124) then
          some (3, ())
        else
        bif (eqI x0 92) then
          bif (eqI x0 92) then
            some (4, ())
          else
          some (0, ())
        else
        bif (eqI x0 39) then
          bif (eqI x0 39) then
            some (4, ())
          else
          some (0, ())
        else
        bif (eqI x0 34) then
          bif (eqI x0 34) then
            some (4, ())
          else
          some (0, ())
        else
        bif (eqI x0 96) then
          bif (eqI x0 96) then
            some (4, ())
          else
          some (0, ())
        else
        bif (eqI x0 36) then
          some (4, ())
        else
        some (0, ())
      else
      bif (eqI x0 38) then
        bif (eqI x0 38) then
          some (3, ())
        else
        bif (eqI x0 92) then
          bif (eqI x0 92) then
            some (4, ())
          else
          some (0, ())
        else
        bif (eqI x0 39) then
          bif (eqI x0 39) then
            some (4, ())
          else
          some (0, ())
        else
        bif (eqI x0 34) then
          bif (eqI x0 34) then
            some (4, ())
          else
          some (0, ())
        else
        bif (eqI x0 96) then
          bif (eqI x0 96) then
            some (4, ())
          else
          some (0, ())
        else
        bif (eqI x0 36) then
          some (4, ())
        else
        some (0, ())
      else
      bif (eqI x0 59) then
        bif (eqI x0 59) then
          some (3, ())
        else
        bif (eqI x0 92) then
          bif (eqI x0 92) then
            some (4, ())
          else
          some (0, ())
        else
        bif (eqI x0 39) then
          bif (eqI x0 39) then
            some (4, ())
          else
          some (0, ())
        else
        bif (eqI x0 34) then
          bif (eqI x0 34) then
            some (4, ())
          else
          some (0, ())
        else
        bif (eqI x0 96) then
          bif (eqI x0 96) then
            some (4, ())
          else
          some (0, ())
        else
        bif (eqI x0 36) then
          some (4, ())
        else
        some (0, ())
      else
      bif (eqI x0 60) then
        bif (eqI x0 60) then
          some (3, ())
        else
        bif (eqI x0 92) then
          bif (eqI x0 92) then
            some (4, ())
          else
          some (0, ())
        else
        bif (eqI x0 39) then
          bif (eqI x0 39) then
            some (4, ())
          else
          some (0, ())
        else
        bif (eqI x0 34) then
          bif (eqI x0 34) then
            some (4, ())
          else
          some (0, ())
        else
        bif (eqI x0 96) then
          bif (eqI x0 96) then
            some (4, ())
          else
          some (0, ())
        else
        bif (eqI x0 36) then
          some (4, ())
        else
        some (0, ())
      else
      bif (eqI x0 62) then
        bif (eqI x0 62) then
          some (3, ())
        else
        bif (eqI x0 92) then
          bif (eqI x0 92) then
            some (4, ())
          else
          some (0, ())
        else
        bif (eqI x0 39) then
          bif (eqI x0 39) then
            some (4, ())
          else
          some (0, ())
        else
        bif (eqI x0 34) then
          bif (eqI x0 34) then
            some (4, ())
          else
          some (0, ())
        else
        bif (eqI x0 96) then
          bif (eqI x0 96) then
            some (4, ())
          else
          some (0, ())
        else
        bif (eqI x0 36) then
          some (4, ())
        else
        some (0, ())
      else
      bif (eqI x0 40) then
        bif (eqI x0 40) then
          some (3, ())
        else
        bif (eqI x0 92) then
          bif (eqI x0 92) then
            some (4, ())
          else
          some (0, ())
        else
        bif (eqI x0 39) then
          bif (eqI x0 39) then
            some (4, ())
          else
          some (0, ())
        else
        bif (eqI x0 34) then
          bif (eqI x0 34) then
            some (4, ())
          else
          some (0, ())
        else
        bif (eqI x0 96) then
          bif (eqI x0 96) then
            some (4, ())
          else
          some (0, ())
        else
        bif (eqI x0 36) then
          some (4, ())
        else
        some (0, ())
      else
      bif (eqI x0 41) then
        some (3, ())
      else
      bif (eqI x0 92) then
        bif (eqI x0 92) then
          some (4, ())
        else
        some (0, ())
      else
      bif (eqI x0 39) then
        bif (eqI x0 39) then
          some (4, ())
        else
        some (0, ())
      else
      bif (eqI x0 34) then
        bif (eqI x0 34) then
          some (4, ())
        else
        some (0, ())
      else
      bif (eqI x0 96) then
        bif (eqI x0 96) then
          some (4, ())
        else
        some (0, ())
      else
      bif (eqI x0 36) then
        some (4, ())
      else
      some (0, ())
    else
    bif (eqI x0 95) then
      some (5, ())
    else
    bif (eqI x0 124) then
      bif (eqI x0 124) then
        some (3, ())
      else
      bif (eqI x0 92) then
        bif (eqI x0 92) then
          some (4, ())
        else
        some (0, ())
      else
      bif (eqI x0 39) then
        bif (eqI x0 39) then
          some (4, ())
        else
        some (0, ())
      else
      bif (eqI x0 34) then
        bif (eqI x0 34) then
          some (4, ())
        else
        some (0, ())
      else
      bif (eqI x0 96) then
        bif (eqI x0 96) then
          some (4, ())
        else
        some (0, ())
      else
      bif (eqI x0 36) then
        some (4, ())
      else
      some (0, ())
    else
    bif (eqI x0 38) then
      bif (eqI x0 38) then
        some (3, ())
      else
      bif (eqI x0 92) then
        bif (eqI x0 92) then
          some (4, ())
        else
        some (0, ())
      else
      bif (eqI x0 39) then
        bif (eqI x0 39) then
          some (4, ())
        else
        some (0, ())
      else
      bif (eqI x0 34) then
        bif (eqI x0 34) then
          some (4, ())
        else
        some (0, ())
      else
      bif (eqI x0 96) then
        bif (eqI x0 96) then
          some (4, ())
        else
        some (0, ())
      else
      bif (eqI x0 36) then
        some (4, ())
      else
      some (0, ())
    else
    bif (eqI x0 59) then
      bif (eqI x0 59) then
        some (3, ())
      else
      bif (eqI x0 92) then
        bif (eqI x0 92) then
          some (4, ())
        else
        some (0, ())
      else
      bif (eqI x0 39) then
        bif (eqI x0 39) then
          some (4, ())
        else
        some (0, ())
      else
      bif (eqI x0 34) then
        bif (eqI x0 34) then
          some (4, ())
        else
        some (0, ())
      else
      bif (eqI x0 96) then
        bif (eqI x0 96) then
          some (4, ())
        else
        some (0, ())
      else
      bif (eqI x0 36) then
        some (4, ())
      else
      some (0, ())
    else
    bif (eqI x0 60) then
      bif (eqI x0 60) then
        some (3, ())
      else
      bif (eqI x0 92) then
        bif (eqI x0 92) then
          some (4, ())
        else
        some (0, ())
      else
      bif (eqI x0 39) then
        bif (eqI x0 39) then
          some (4, ())
        else
        some (0, ())
      else
      bif (eqI x0 34) then
        bif (eqI x0 34) then
          some (4, ())
        else
        some (0, ())
      else
      bif (eqI x0 96) then
        bif (eqI x0 96) then
          some (4, ())
        else
        some (0, ())
      else
      bif (eqI x0 36) then
        some (4, ())
      else
      some (0, ())
    else
    bif (eqI x0 62) then
      bif (eqI x0 62) then
        some (3, ())
      else
      bif (eqI x0 92) then
        bif (eqI x0 92) then
          some (4, ())
        else
        some (0, ())
      else
      bif (eqI x0 39) then
        bif (eqI x0 39) then
          some (4, ())
        else
        some (0, ())
      else
      bif (eqI x0 34) then
        bif (eqI x0 34) then
          some (4, ())
        else
        some (0, ())
      else
      bif (eqI x0 96) then
        bif (eqI x0 96) then
          some (4, ())
        else
        some (0, ())
      else
      bif (eqI x0 36) then
        some (4, ())
      else
      some (0, ())
    else
    bif (eqI x0 40) then
      bif (eqI x0 40) then
        some (3, ())
      else
      bif (eqI x0 92) then
        bif (eqI x0 92) then
          some (4, ())
        else
        some (0, ())
      else
      bif (eqI x0 39) then
        bif (eqI x0 39) then
          some (4, ())
        else
        some (0, ())
      else
      bif (eqI x0 34) then
        bif (eqI x0 34) then
          some (4, ())
        else
        some (0, ())
      else
      bif (eqI x0 96) then
        bif (eqI x0 96) then
          some (4, ())
        else
        some (0, ())
      else
      bif (eqI x0 36) then
        some (4, ())
      else
      some (0, ())
    else
    bif (eqI x0 41) then
      some (3, ())
    else
    bif (eqI x0 92) then
      bif (eqI x0 92) then
        some (4, ())
      else
      some (0, ())
    else
    bif (eqI x0 39) then
      bif (eqI x0 39) then
        some (4, ())
      else
      some (0, ())
    else
    bif (eqI x0 34) then
      bif (eqI x0 34) then
        some (4, ())
      else
      some (0, ())
    else
    bif (eqI x0 96) then
      bif (eqI x0 96) then
        some (4, ())
      else
      some (0, ())
    else
    bif (eqI x0 36) then
      some (4, ())
    else
    some (0, ())
  else
  bif (leI 97 x0) then
    bif (leI x0 122) then
      bif (leI x0 122) then
        some (5, ())
      else
      bif (eqI x0 124) then
        bif (eqI x0 124) then
          some (3, ())
        else
        bif (eqI x0 92) then
          bif (eqI x0 92) then
            some (4, ())
          else
          some (0, ())
        else
        bif (eqI x0 39) then
          bif (eqI x0 39) then
            some (4, ())
          else
          some (0, ())
        else
        bif (eqI x0 34) then
          bif (eqI x0 34) then
            some (4, ())
          else
          some (0, ())
        else
        bif (eqI x0 96) then
          bif (eqI x0 96) then
            some (4, ())
          else
          some (0, ())
        else
        bif (eqI x0 36) then
          some (4, ())
        else
        some (0, ())
      else
      bif (eqI x0 38) then
        bif (eqI x0 38) then
          some (3, ())
        else
        bif (eqI x0 92) then
          bif (eqI x0 92) then
            some (4, ())
          else
          some (0, ())
        else
        bif (eqI x0 39) then
          bif (eqI x0 39) then
            some (4, ())
          else
          some (0, ())
        else
        bif (eqI x0 34) then
          bif (eqI x0 34) then
            some (4, ())
          else
          some (0, ())
        else
        bif (eqI x0 96) then
          bif (eqI x0 96) then
            some (4, ())
          else
          some (0, ())
        else
        bif (eqI x0 36) then
          some (4, ())
        else
        some (0, ())
      else
      bif (eqI x0 59) then
        bif (eqI x0 59) then
          some (3, ())
        else
        bif (eqI x0 92) then
          bif (eqI x0 92) then
            some (4, ())
          else
          some (0, ())
        else
        bif (eqI x0 39) then
          bif (eqI x0 39) then
            some (4, ())
          else
          some (0, ())
        else
        bif (eqI x0 34) then
          bif (eqI x0 34) then
            some (4, ())
          else
          some (0, ())
        else
        bif (eqI x0 96) then
          bif (eqI x0 96) then
            some (4, ())
          else
          some (0, ())
        else
        bif (eqI x0 36) then
          some (4, ())
        else
        some (0, ())
      else
      bif (eqI x0 60) then
        bif (eqI x0 60) then
          some (3, ())
        else
        bif (eqI x0 92) then
          bif (eqI x0 92) then
            some (4, ())
          else
          some (0, ())
        else
        bif (eqI x0 39) then
          bif (eqI x0 39) then
            some (4, ())
          else
          some (0, ())
        else
        bif (eqI x0 34) then
          bif (eqI x0 34) then
            some (4, ())
          else
          some (0, ())
        else
        bif (eqI x0 96) then
          bif (eqI x0 96) then
            some (4, ())
          else
          some (0, ())
        else
        bif (eqI x0 36) then
          some (4, ())
        else
        some (0, ())
      else
      bif (eqI x0 62) then
        bif (eqI x0 62) then
          some (3, ())
        else
        bif (eqI x0 92) then
          bif (eqI x0 92) then
            some (4, ())
          else
          some (0, ())
        else
        bif (eqI x0 39) then
          bif (eqI x0 39) then
            some (4, ())
          else
          some (0, ())
        else
        bif (eqI x0 34) then
          bif (eqI x0 34) then
            some (4, ())
          else
          some (0, ())
        else
        bif (eqI x0 96) then
          bif (eqI x0 96) then
            some (4, ())
          else
          some (0, ())
        else
        bif (eqI x0 36) then
          some (4, ())
        else
        some (0, ())
      else
      bif (eqI x0 40) then
        bif (eqI x0 40) then
          some (3, ())
        else
        bif (eqI x0 92) then
          bif (eqI x0 92) then
            some (4, ())
          else
          some (0, ())
        else
        bif (eqI x0 39) then
          bif (eqI x0 39) then
            some (4, ())
          else
          some (0, ())
        else
        bif (eqI x0 34) then
          bif (eqI x0 34) then
            some (4, ())
          else
          some (0, ())
        else
        bif (eqI x0 96) then
          bif (eqI x0 96) then
            some (4, ())
          else
          some (0, ())
        else
        bif (eqI x0 36) then
          some (4, ())
        else
        some (0, ())
      else
      bif (eqI x0 41) then
        some (3, ())
      else
      bif (eqI x0 92) then
        bif (eqI x0 92) then
          some (4, ())
        else
        some (0, ())
      else
      bif (eqI x0 39) then
        bif (eqI x0 39) then
          some (4, ())
        else
        some (0, ())
      else
      bif (eqI x0 34) then
        bif (eqI x0 34) then
          some (4, ())
        else
        some (0, ())
      else
      bif (eqI x0 96) then
        bif (eqI x0 96) then
          some (4, ())
        else
        some (0, ())
      else
      bif (eqI x0 36) then
        some (4, ())
      else
      some (0, ())
    else
    bif (leI 65 x0) then
      bif (leI x0 90) then
        bif (leI x0 90) then
          some (5, ())
        else
        bif (eqI x0 124) then
          bif (eqI x0 124) then
            some (3, ())
          else
          bif (eqI x0 92) then
            bif (eqI x0 92) then
              some (4, ())
            else
            some (0, ())
          else
          bif (eqI x0 39) then
            bif (eqI x0 39) then
              some (4, ())
            else
            some (0, ())
          else
          bif (eqI x0 34) then
            bif (eqI x0 34) then
              some (4, ())
            else
            some (0, ())
          else
          bif (eqI x0 96) then
            bif (eqI x0 96) then
              some (4, ())
            else
            some (0, ())
          else
          bif (eqI x0 36) then
            some (4, ())
          else
          some (0, ())
        else
        bif (eqI x0 38) then
          bif (eqI x0 38) then
            some (3, ())
          else
          bif (eqI x0 92) then
            bif (eqI x0 92) then
              some (4, ())
            else
            some (0, ())
          else
          bif (eqI x0 39) then
            bif (eqI x0 39) then
              some (4, ())
            else
            some (0, ())
          else
          bif (eqI x0 34) then
            bif (eqI x0 34) then
              some (4, ())
            else
            some (0, ())
          else
          bif (eqI x0 96) then
            bif (eqI x0 96) then
              some (4, ())
            else
            some (0, ())
          else
          bif (eqI x0 36) then
            some (4, ())
          else
          some (0, ())
        else
        bif (eqI x0 59) then
          bif (eqI x0 59) then
            some (3, ())
          else
          bif (eqI x0 92) then
            bif (eqI x0 92) then
              some (4, ())
            else
            some (0, ())
          else
          bif (eqI x0 39) then
            bif (eqI x0 39) then
              some (4, ())
            else
            some (0, ())
          else
          bif (eqI x0 34) then
            bif (eqI x0 34) then
              some (4, ())
            else
            some (0, ())
          else
          bif (eqI x0 96) then
            bif (eqI x0 96) then
              some (4, ())
            else
            some (0, ())
          else
          bif (eqI x0 36) then
            some (4, ())
          else
          some (0, ())
        else
        bif (eqI x0 60) then
          bif (eqI x0 60) then
            some (3, ())
          else
          bif (eqI x0 92) then
            bif (eqI x0 92) then
              some (4, ())
            else
            some (0, ())
          else
          bif (eqI x0 39) then
            bif (eqI x0 39) then
              some (4, ())
            else
            some (0, ())
          else
          bif (eqI x0 34) then
            bif (eqI x0 34) then
              some (4, ())
            else
            some (0, ())
          else
          bif (eqI x0 96) then
            bif (eqI x0 96) then
              some (4, ())
            else
            some (0, ())
          else
          bif (eqI x0 36) then
            some (4, ())
          else
          some (0, ())
        else
        bif (eqI x0 62) then
          bif (eqI x0 62) then
            some (3, ())
          else
          bif (eqI x0 92) then
            bif (eqI x0 92) then
              some (4, ())
            else
            some (0, ())
          else
          bif (eqI x0 39) then
            bif (eqI x0 39) then
              some (4, ())
            else
            some (0, ())
          else
          bif (eqI x0 34) then
            bif (eqI x0 34) then
              some (4, ())
            else
            some (0, ())
          else
          bif (eqI x0 96) then
            bif (eqI x0 96) then
              some (4, ())
            else
            some (0, ())
          else
          bif (eqI x0 36) then
            some (4, ())
          else
          some (0, ())
        else
        bif (eqI x0 40) then
          bif (eqI x0 40) then
            some (3, ())
          else
          bif (eqI x0 92) then
            bif (eqI x0 92) then
              some (4, ())
            else
            some (0, ())
          else
          bif (eqI x0 39) then
            bif (eqI x0 39) then
              some (4, ())
            else
            some (0, ())
          else
          bif (eqI x0 34) then
            bif (eqI x0 34) then
              some (4, ())
            else
            some (0, ())
          else
          bif (eqI x0 96) then
            bif (eqI x0 96) then
              some (4, ())
            else
            some (0, ())
          else
          bif (eqI x0 36) then
            some (4, ())
          else
          some (0, ())
        else
        bif (eqI x0 41) then
          some (3, ())
        else
        bif (eqI x0 92) then
          bif (eqI x0 92) then
            some (4, ())
          else
          some (0, ())
        else
        bif (eqI x0 39) then
          bif (eqI x0 39) then
            some (4, ())
          else
          some (0, ())
        else
        bif (eqI x0 34) then
          bif (eqI x0 34) then
            some (4, ())
          else
          some (0, ())
        else
        bif (eqI x0 96) then
          bif (eqI x0 96) then
            some (4, ())
          else
          some (0, ())
        else
        bif (eqI x0 36) then
          some (4, ())
        else
        some (0, ())
      else
      bif (eqI x0 95) then
        some (5, ())
      else
      bif (eqI x0 124) then
        bif (eqI x0 124) then
          some (3, ())
        else
        bif (eqI x0 92) then
          bif (eqI x0 92) then
            some (4, ())
          else
          some (0, ())
        else
        bif (eqI x0 39) then
          bif (eqI x0 39) then
            some (4, ())
          else
          some (0, ())
        else
        bif (eqI x0 34) then
          bif (eqI x0 34) then
            some (4, ())
          else
          some (0, ())
        else
        bif (eqI x0 96) then
          bif (eqI x0 96) then
            some (4, ())
          else
          some (0, ())
        else
        bif (eqI x0 36) then
          some (4, ())
        else
        some (0, ())
      else
      bif (eqI x0 38) then
        bif (eqI x0 38) then
          some (3, ())
        else
        bif (eqI x0 92) then
          bif (eqI x0 92) then
            some (4, ())
          else
          some (0, ())
        else
        bif (eqI x0 39) then
          bif (eqI x0 39) then
            some (4, ())
          else
          some (0, ())
        else
        bif (eqI x0 34) then
          bif (eqI x0 34) then
            some (4, ())
          else
          some (0, ())
        else
        bif (eqI x0 96) then
          bif (eqI x0 96) then
            some (4, ())
          else
          some (0, ())
        else
        bif (eqI x0 36) then
          some (4, ())
        else
        some (0, ())
      else
      bif (eqI x0 59) then
        bif (eqI x0 59) then
          some (3, ())
        else
        bif (eqI x0 92) then
          bif (eqI x0 92) then
            some (4, ())
          else
          some (0, ())
        else
        bif (eqI x0 39) then
          bif (eqI x0 39) then
            some (4, ())
          else
          some (0, ())
        else
        bif (eqI x0 34) then
          bif (eqI x0 34) then
            some (4, ())
          else
          some (0, ())
        else
        bif (eqI x0 96) then
          bif (eqI x0 96) then
            some (4, ())
          else
          some (0, ())
        else
        bif (eqI x0 36) then
          some (4, ())
        else
        some (0, ())
      else
      bif (eqI x0 60) then
        bif (eqI x0 60) then
          some (3, ())
        else
        bif (eqI x0 92) then
          bif (eqI x0 92) then
            some (4, ())
          else
          some (0, ())
        else
        bif (eqI x0 39) then
          bif (eqI x0 39) then
            some (4, ())
          else
          some (0, ())
        else
        bif (eqI x0 34) then
          bif (eqI x0 34) then
            some (4, ())
          else
          some (0, ())
        else
        bif (eqI x0 96) then
          bif (eqI x0 96) then
            some (4, ())
          else
          some (0, ())
        else
        bif (eqI x0 36) then
          some (4, ())
        else
        some (0, ())
      else
      bif (eqI x0 62) then
        bif (eqI x0 62) then
          some (3, ())
        else
        bif (eqI x0 92) then
          bif (eqI x0 92) then
            some (4, ())
          else
          some (0, ())
        else
        bif (eqI x0 39) then
          bif (eqI x0 39) then
            some (4, ())
          else
          some (0, ())
        else
        bif (eqI x0 34) then
          bif (eqI x0 34) then
            some (4, ())
          else
          some (0, ())
        else
        bif (eqI x0 96) then
          bif (eqI x0 96) then
            some (4, ())
          else
          some (0, ())
        else
        bif (eqI x0 36) then
          some (4, ())
        else
        some (0, ())
      else
      bif (eqI x0 40) then
        bif (eqI x0 40) then
          some (3, ())
        else
        bif (eqI x0 92) then
          bif (eqI x0 92) then
            some (4, ())
          else
          some (0, ())
        else
        bif (eqI x0 39) then
          bif (eqI x0 39) then
            some (4, ())
          else
          some (0, ())
        else
        bif (eqI x0 34) then
          bif (eqI x0 34) then
            some (4, ())
          else
          some (0, ())
        else
        bif (eqI x0 96) then
          bif (eqI x0 96) then
            some (4, ())
          else
          some (0, ())
        else
        bif (eqI x0 36) then
          some (4, ())
        else
        some (0, ())
      else
      bif (eqI x0 41) then
        some (3, ())
      else
      bif (eqI x0 92) then
        bif (eqI x0 92) then
          some (4, ())
        else
        some (0, ())
      else
      bif (eqI x0 39) then
        bif (eqI x0 39) then
          some (4, ())
        else
        some (0, ())
      else
      bif (eqI x0 34) then
        bif (eqI x0 34) then
          some (4, ())
        else
        some (0, ())
      else
      bif (eqI x0 96) then
        bif (eqI x0 96) then
          some (4, ())
        else
        some (0, ())
      else
      bif (eqI x0 36) then
        some (4, ())
      else
      some (0, ())
    else
    bif (eqI x0 95) then
      some (5, ())
    else
    bif (eqI x0 124) then
      bif (eqI x0 124) then
        some (3, ())
      else
      bif (eqI x0 92) then
        bif (eqI x0 92) then
          some (4, ())
        else
        some (0, ())
      else
      bif (eqI x0 39) then
        bif (eqI x0 39) then
          some (4, ())
        else
        some (0, ())
      else
      bif (eqI x0 34) then
        bif (eqI x0 34) then
          some (4, ())
        else
        some (0, ())
      else
      bif (eqI x0 96) then
        bif (eqI x0 96) then
          some (4, ())
        else
        some (0, ())
      else
      bif (eqI x0 36) then
        some (4, ())
      else
      some (0, ())
    else
    bif (eqI x0 38) then
      bif (eqI x0 38) then
        some (3, ())
      else
      bif (eqI x0 92) then
        bif (eqI x0 92) then
          some (4, ())
        else
        some (0, ())
      else
      bif (eqI x0 39) then
        bif (eqI x0 39) then
          some (4, ())
        else
        some (0, ())
      else
      bif (eqI x0 34) then
        bif (eqI x0 34) then
          some (4, ())
        else
        some (0, ())
      else
      bif (eqI x0 96) then
        bif (eqI x0 96) then
          some (4, ())
        else
        some (0, ())
      else
      bif (eqI x0 36) then
        some (4, ())
      else
      some (0, ())
    else
    bif (eqI x0 59) then
      bif (eqI x0 59) then
        some (3, ())
      else
      bif (eqI x0 92) then
        bif (eqI x0 92) then
          some (4, ())
        else
        some (0, ())
      else
      bif (eqI x0 39) then
        bif (eqI x0 39) then
          some (4, ())
        else
        some (0, ())
      else
      bif (eqI x0 34) then
        bif (eqI x0 34) then
          some (4, ())
        else
        some (0, ())
      else
      bif (eqI x0 96) then
        bif (eqI x0 96) then
          some (4, ())
        else
        some (0, ())
      else
      bif (eqI x0 36) then
        some (4, ())
      else
      some (0, ())
    else
    bif (eqI x0 60) then
      bif (eqI x0 60) then
        some (3, ())
      else
      bif (eqI x0 92) then
        bif (eqI x0 92) then
          some (4, ())
        else
        some (0, ())
      else
      bif (eqI x0 39) then
        bif (eqI x0 39) then
          some (4, ())
        else
        some (0, ())
      else
      bif (eqI x0 34) then
        bif (eqI x0 34) then
          some (4, ())
        else
        some (0, ())
      else
      bif (eqI x0 96) then
        bif (eqI x0 96) then
          some (4, ())
        else
        some (0, ())
      else
      bif (eqI x0 36) then
        some (4, ())
      else
      some (0, ())
    else
    bif (eqI x0 62) then
      bif (eqI x0 62) then
        some (3, ())
      else
      bif (eqI x0 92) then
        bif (eqI x0 92) then
          some (4, ())
        else
        some (0, ())
      else
      bif (eqI x0 39) then
        bif (eqI x0 39) then
          some (4, ())
        else
        some (0, ())
      else
      bif (eqI x0 34) then
        bif (eqI x0 34) then
          some (4, ())
        else
        some (0, ())
      else
      bif (eqI x0 96) then
        bif (eqI x0 96) then
          some (4, ())
        else
        some (0, ())
      else
      bif (eqI x0 36) then
        some (4, ())
      else
      some (0, ())
    else
    bif (eqI x0 40) then
      bif (eqI x0 40) then
        some (3, ())
      else
      bif (eqI x0 92) then
        bif (eqI x0 92) then
          some (4, ())
        else
        some (0, ())
      else
      bif (eqI x0 39) then
        bif (eqI x0 39) then
          some (4, ())
        else
        some (0, ())
      else
      bif (eqI x0 34) then
        bif (eqI x0 34) then
          some (4, ())
        else
        some (0, ())
      else
      bif (eqI x0 96) then
        bif (eqI x0 96) then
          some (4, ())
        else
        some (0, ())
      else
      bif (eqI x0 36) then
        some (4, ())
      else
      some (0, ())
    else
    bif (eqI x0 41) then
      some (3, ())
    else
    bif (eqI x0 92) then
      bif (eqI x0 92) then
        some (4, ())
      else
      some (0, ())
    else
    bif (eqI x0 39) then
      bif (eqI x0 39) then
        some (4, ())
      else
      some (0, ())
    else
    bif (eqI x0 34) then
      bif (eqI x0 34) then
        some (4, ())
      else
      some (0, ())
    else
    bif (eqI x0 96) then
      bif (eqI x0 96) then
        some (4, ())
      else
      some (0, ())
    else
    bif (eqI x0 36) then
      some (4, ())
    else
    some (0, ())
  else
  bif (leI 65 x0) then
    bif (leI x0 90) then
      bif (leI x0 90) then
        some (5, ())
      else
      bif (eqI x0 124) then
        bif (eqI x0 124) then
          some (3, ())
        else
        bif (eqI x0 92) then
          bif (eqI x0 92) then
            some (4, ())
          else
          some (0, ())
        else
        bif (eqI x0 39) then
          bif (eqI x0 39) then
            some (4, ())
          else
          some (0, ())
        else
        bif (eqI x0 34) then
          bif (eqI x0 34) then
            some (4, ())
          else
          some (0, ())
        else
        bif (eqI x0 96) then
          bif (eqI x0 96) then
            some (4, ())
          else
          some (0, ())
        else
        bif (eqI x0 36) then
          some (4, ())
        else
        some (0, ())
      else
      bif (eqI x0 38) then
        bif (eqI x0 38) then
          some (3, ())
        else
        bif (eqI x0 92) then
          bif (eqI x0 92) then
            some (4, ())
          else
          some (0, ())
        else
        bif (eqI x0 39) then
          bif (eqI x0 39) then
            some (4, ())
          else
          some (0, ())
        else
        bif (eqI x0 34) then
          bif (eqI x0 34) then
            some (4, ())
          else
          some (0, ())
        else
        bif (eqI x0 96) then
          bif (eqI x0 96) then
            some (4, ())
          else
          some (0, ())
        else
        bif (eqI x0 36) then
          some (4, ())
        else
        some (0, ())
      else
      bif (eqI x0 59) then
        bif (eqI x0 59) then
          some (3, ())
        else
        bif (eqI x0 92) then
          bif (eqI x0 92) then
            some (4, ())
          else
          some (0, ())
        else
        bif (eqI x0 39) then
          bif (eqI x0 39) then
            some (4, ())
          else
          some (0, ())
        else
        bif (eqI x0 34) then
          bif (eqI x0 34) then
            some (4, ())
          else
          some (0, ())
        else
        bif (eqI x0 96) then
          bif (eqI x0 96) then
            some (4, ())
          else
          some (0, ())
        else
        bif (eqI x0 36) then
          some (4, ())
        else
        some (0, ())
      else
      bif (eqI x0 60) then
        bif (eqI x0 60) then
          some (3, ())
        else
        bif (eqI x0 92) then
          bif (eqI x0 92) then
            some (4, ())
          else
          some (0, ())
        else
        bif (eqI x0 39) then
          bif (eqI x0 39) then
            some (4, ())
          else
          some (0, ())
        else
        bif (eqI x0 34) then
          bif (eqI x0 34) then
            some (4, ())
          else
          some (0, ())
        else
        bif (eqI x0 96) then
          bif (eqI x0 96) then
            some (4, ())
          else
          some (0, ())
        else
        bif (eqI x0 36) then
          some (4, ())
        else
        some (0, ())
      else
      bif (eqI x0 62) then
        bif (eqI x0 62) then
          some (3, ())
        else
        bif (eqI x0 92) then
          bif (eqI x0 92) then
            some (4, ())
          else
          some (0, ())
        else
        bif (eqI x0 39) then
          bif (eqI x0 39) then
            some (4, ())
          else
          some (0, ())
        else
        bif (eqI x0 34) then
          bif (eqI x0 34) then
            some (4, ())
          else
          some (0, ())
        else
        bif (eqI x0 96) then
          bif (eqI x0 96) then
            some (4, ())
          else
          some (0, ())
        else
        bif (eqI x0 36) then
          some (4, ())
        else
        some (0, ())
      else
      bif (eqI x0 40) then
        bif (eqI x0 40) then
          some (3, ())
        else
        bif (eqI x0 92) then
          bif (eqI x0 92) then
            some (4, ())
          else
          some (0, ())
        else
        bif (eqI x0 39) then
          bif (eqI x0 39) then
            some (4, ())
          else
          some (0, ())
        else
        bif (eqI x0 34) then
          bif (eqI x0 34) then
            some (4, ())
          else
          some (0, ())
        else
        bif (eqI x0 96) then
          bif (eqI x0 96) then
            some (4, ())
          else
          some (0, ())
        else
        bif (eqI x0 36) then
          some (4, ())
        else
        some (0, ())
      else
      bif (eqI x0 41) then
        some (3, ())
      else
      bif (eqI x0 92) then
        bif (eqI x0 92) then
          some (4, ())
        else
        some (0, ())
      else
      bif (eqI x0 39) then
        bif (eqI x0 39) then
          some (4, ())
        else
        some (0, ())
      else
      bif (eqI x0 34) then
        bif (eqI x0 34) then
          some (4, ())
        else
        some (0, ())
      else
      bif (eqI x0 96) then
        bif (eqI x0 96) then
          some (4, ())
        else
        some (0, ())
      else
      bif (eqI x0 36) then
        some (4, ())
      else
      some (0, ())
    else
    bif (eqI x0 95) then
      some (5, ())
    else
    bif (eqI x0 124) then
      bif (eqI x0 124) then
        some (3, ())
      else
      bif (eqI x0 92) then
        bif (eqI x0 92) then
          some (4, ())
        else
        some (0, ())
      else
      bif (eqI x0 39) then
        bif (eqI x0 39) then
          some (4, ())
        else
        some (0, ())
      else
      bif (eqI x0 34) then
        bif (eqI x0 34) then
          some (4, ())
        else
        some (0, ())
      else
      bif (eqI x0 96) then
        bif (eqI x0 96) then
          some (4, ())
        else
        some (0, ())
      else
      bif (eqI x0 36) then
        some (4, ())
      else
      some (0, ())
    else
    bif (eqI x0 38) then
      bif (eqI x0 38) then
        some (3, ())
      else
      bif (eqI x0 92) then
        bif (eqI x0 92) then
          some (4, ())
        else
        some (0, ())
      else
      bif (eqI x0 39) then
        bif (eqI x0 39) then
          some (4, ())
        else
        some (0, ())
      else
      bif (eqI x0 34) then
        bif (eqI x0 34) then
          some (4, ())
        else
        some (0, ())
      else
      bif (eqI x0 96) then
        bif (eqI x0 96) then
          some (4, ())
        else
        some (0, ())
      else
      bif (eqI x0 36) then
        some (4, ())
      else
      some (0, ())
    else
    bif (eqI x0 59) then
      bif (eqI x0 59) then
        some (3, ())
      else
      bif (eqI x0 92) then
        bif (eqI x0 92) then
          some (4, ())
        else
        some (0, ())
      else
      bif (eqI x0 39) then
        bif (eqI x0 39) then
          some (4, ())
        else
        some (0, ())
      else
      bif (eqI x0 34) then
        bif (eqI x0 34) then
          some (4, ())
        else
        some (0, ())
      else
      bif (eqI x0 96) then
        bif (eqI x0 96) then
          some (4, ())
        else
        some (0, ())
      else
      bif (eqI x0 36) then
        some (4, ())
      else
      some (0, ())
    else
    bif (eqI x0 60) then
      bif (eqI x0 60) then
        some (3, ())
      else
      bif (eqI x0 92) then
        bif (eqI x0 92) then
          some (4, ())
        else
        some (0, ())
      else
      bif (eqI x0 39) then
        bif (eqI x0 39) then
          some (4, ())
        else
        some (0, ())
      else
      bif (eqI x0 34) then
        bif (eqI x0 34) then
          some (4, ())
        else
        some (0, ())
      else
      bif (eqI x0 96) then
        bif (eqI x0 96) then
          some (4, ())
        else
        some (0, ())
      else
      bif (eqI x0 36) then
        some (4, ())
      else
      some (0, ())
    else
    bif (eqI x0 62) then
      bif (eqI x0 62) then
        some (3, ())
      else
      bif (eqI x0 92) then
        bif (eqI x0 92) then
          some (4, ())
        else
        some (0, ())
      else
      bif (eqI x0 39) then
        bif (eqI x0 39) then
          some (4, ())
        else
        some (0, ())
      else
      bif (eqI x0 34) then
        bif (eqI x0 34) then
          some (4, ())
        else
        some (0, ())
      else
      bif (eqI x0 96) then
        bif (eqI x0 96) then
          some (4, ())
        else
        some (0, ())
      else
      bif (eqI x0 36) then
        some (4, ())
      else
      some (0, ())
    else
    bif (eqI x0 40) then
      bif (eqI x0 40) then
        some (3, ())
      else
      bif (eqI x0 92) then
        bif (eqI x0 92) then
          some (4, ())
        else
        some (0, ())
      else
      bif (eqI x0 39) then
        bif (eqI x0 39) then
          some (4, ())
        else
        some (0, ())
      else
      bif (eqI x0 34) then
        bif (eqI x0 34) then
          some (4, ())
        else
        some (0, ())
      else
      bif (eqI x0 96) then
        bif (eqI x0 96) then
          some (4, ())
        else
        some (0, ())
      else
      bif (eqI x0 36) then
        some (4, ())
      else
      some (0, ())
    else
    bif (eqI x0 41) then
      some (3, ())
    else
    bif (eqI x0 92) then
      bif (eqI x0 92) then
        some (4, ())
      else
      some (0, ())
    else
    bif (eqI x0 39) then
      bif (eqI x0 39) then
        some (4, ())
      else
      some (0, ())
    else
    bif (eqI x0 34) then
      bif (eqI x0 34) then
        some (4, ())
      else
      some (0, ())
    else
    bif (eqI x0 96) then
      bif (eqI x0 96) then
        some (4, ())
      else
      some (0, ())
    else
    bif (eqI x0 36) then
      some (4, ())
    else
    some (0, ())
  else
  bif (eqI x0 95) then
    some (5, ())
  else
  bif (eqI x0 124) then
    bif (eqI x0 124) then
      some (3, ())
    else
    bif (eqI x0 92) then
      bif (eqI x0 92) then
        some (4, ())
      else
      some (0, ())
    else
    bif (eqI x0 39) then
      bif (eqI x0 39) then
        some (4, ())
      else
      some (0, ())
    else
    bif (eqI x0 34) then
      bif (eqI x0 34) then
        some (4, ())
      else
      some (0, ())
    else
    bif (eqI x0 96) then
      bif (eqI x0 96) then
        some (4, ())
      else
      some (0, ())
    else
    bif (eqI x0 36) then
      some (4, ())
    else
    some (0, ())
  else
  bif (eqI x0 38) then
    bif (eqI x0 38) then
      some (3, ())
    else
    bif (eqI x0 92) then
      bif (eqI x0 92) then
        some (4, ())
      else
      some (0, ())
    else
    bif (eqI x0 39) then
      bif (eqI x0 39) then
        some (4, ())
      else
      some (0, ())
    else
    bif (eqI x0 34) then
      bif (eqI x0 34) then
        some (4, ())
      else
      some (0, ())
    else
    bif (eqI x0 96) then
      bif (eqI x0 96) then
        some (4, ())
      else
      some (0, ())
    else
    bif (eqI x0 36) then
      some (4, ())
    else
    some (0, ())
  else
  bif (eqI x0 59) then
    bif (eqI x0 59) then
      some (3, ())
    else
    bif (eqI x0 92) then
      bif (eqI x0 92) then
        some (4, ())
      else
      some (0, ())
    else
    bif (eqI x0 39) then
      bif (eqI x0 39) then
        some (4, ())
      else
      some (0, ())
    else
    bif (eqI x0 34) then
      bif (eqI x0 34) then
        some (4, ())
      else
      some (0, ())
    else
    bif (eqI x0 96) then
      bif (eqI x0 96) then
        some (4, ())
      else
      some (0, ())
    else
    bif (eqI x0 36) then
      some (4, ())
    else
    some (0, ())
  else
  bif (eqI x0 60) then
    bif (eqI x0 60) then
      some (3, ())
    else
    bif (eqI x0 92) then
      bif (eqI x0 92) then
        some (4, ())
      else
      some (0, ())
    else
    bif (eqI x0 39) then
      bif (eqI x0 39) then
        some (4, ())
      else
      some (0, ())
    else
    bif (eqI x0 34) then
      bif (eqI x0 34) then
        some (4, ())
      else
      some (0, ())
    else
    bif (eqI x0 96) then
      bif (eqI x0 96) then
        some (4, ())
      else
      some (0, ())
    else
    bif (eqI x0 36) then
      some (4, ())
    else
    some (0, ())
  else
  bif (eqI x0 62) then
    bif (eqI x0 62) then
      some (3, ())
    else
    bif (eqI x0 92) then
      bif (eqI x0 92) then
        some (4, ())
      else
      some (0, ())
    else
    bif (eqI x0 39) then
      bif (eqI x0 39) then
        some (4, ())
      else
      some (0, ())
    else
    bif (eqI x0 34) then
      bif (eqI x0 34) then
        some (4, ())
      else
      some (0, ())
    else
    bif (eqI x0 96) then
      bif (eqI x0 96) then
        some (4, ())
      else
      some (0, ())
    else
    bif (eqI x0 36) then
      some (4, ())
    else
    some (0, ())
  else
  bif (eqI x0 40) then
    bif (eqI x0 40) then
      some (3, ())
    else
    bif (eqI x0 92) then
      bif (eqI x0 92) then
        some (4, ())
      else
      some (0, ())
    else
    bif (eqI x0 39) then
      bif (eqI x0 39) then
        some (4, ())
      else
      some (0, ())
    else
    bif (eqI x0 34) then
      bif (eqI x0 34) then
        some (4, ())
      else
      some (0, ())
    else
    bif (eqI x0 96) then
      bif (eqI x0 96) then
        some (4, ())
      else
      some (0, ())
    else
    bif (eqI x0 36) then
      some (4, ())
    else
    some (0, ())
  else
  bif (eqI x0 41) then
    some (3, ())
  else
  bif (eqI x0 92) then
    bif (eqI x0 92) then
      some (4, ())
    else
    some (0, ())
  else
  bif (eqI x0 39) then
    bif (eqI x0 39) then
      some (4, ())
    else
    some (0, ())
  else
  bif (eqI x0 34) then
    bif (eqI x0 34) then
      some (4, ())
    else
    some (0, ())
  else
  bif (eqI x0 96) then
    bif (eqI x0 96) then
      some (4, ())
    else
    some (0, ())
  else
  bif (eqI x0 36) then
    some (4, ())
  else
  some (0, ())
def sum17 : Sum := (⟨[.int .u8], [(.int .i64, false)], fun x => fn17 x.1⟩ : Sum)
noncomputable def env17 : Env := envOf Try.prog tt 17 [] [] []
theorem run17 (x0 : Int) : runF env17 17 [.int .u8] [(.int .i64, false)] (x0, ()) = fn17 x0 := by kernel_rfl
theorem env17_ok : EnvOk env17 := envOf_ok tok mixed noGor (sg := []) (fun _ h => absurd h List.not_mem_nil) (fn := Try.f17) (c := (Try.f17.body).getD .skip) (by kernel_rfl) (by kernel_rfl) (loopsOk_none (fun _ => rfl) (fun _ => rfl) _) rf_ok chk_ok
theorem sum17_ok : SumOk Try.prog 17 sum17 := sum_of_run env17_ok (by decide) fun x y h => (run17 (x.1)).trans h

/-! ### quillwort/class.Runs -/
noncomputable def b5 : Code := (Try.f5.body).getD .skip
noncomputable def b5_16 : Code := (Try.f16.body).getD .skip
noncomputable def b5_11 : Code := (Try.f11.body).getD .skip
noncomputable def c5_16_1 : Code := cA (cA (cB (b5_16)))
noncomputable def c5_11_4 : Code := cA (cA (cA (cB (cB (cB (cA (cB (b5_11))))))))
def k5_16_1 : Keep := ⟨[0, 1, 3, 17000001], [], [], [], [], []⟩
def k5_11_4 : Keep := ⟨[0, 1, 2, 7, 12000004], [], [7], [], [6], []⟩
def kr5_3 : Keep := ⟨[2], [], [], [], [], []⟩
def p5_11_4 : SQ := ⟨us [.v .str, .v (.int .i64), .fn 18 [(3000004, 0)], .u, .u, .u, .u, .v (.int .i64)] 25, [us [.yld 1700006, .ptr 2000001 0, .u, .v (.int .i64), .ptr 3000004 0, .u, .v (.int .i64), .v .str, .v (.int .i64), .v .bool, .v .str, .v (.int .i64), .v (.int .u8), .v (.int .i64), .v .str, .v (.int .i64), .fn 18 [(3000004, 0)]] 13, us [.u, .u, .ptr 1000002 0] 9, [.yld 1700006], []], [.box 3000004 3 [.v (.int .i64)], .lp 1700006 5 (us [.u, .u, .ptr 1000002 0] 9) [6] 3 0 none, .box 2000001 9 [.v .str], .box 1000002 23 [.slc 1500002], .arr 1500002 (.pair (.int .i64) (.pair (.int .i64) (.pair (.int .i64) .unit)))]⟩
def pa5_11_4 : SQ := ⟨us [.u, .u, .u, .u, .u, .u, .u, .v (.int .i64)] 25, [us [.yld 1700006, .ptr 2000001 0, .u, .v (.int .i64), .ptr 3000004 0, .u, .v (.int .i64), .v .str, .v (.int .i64), .v .bool, .v .str, .v (.int .i64), .v (.int .u8), .v (.int .i64), .v .str, .v (.int .i64), .fn 18 [(3000004, 0)]] 13, us [.u, .u, .ptr 1000002 0] 9, [.yld 1700006], []], [.box 3000004 3 [.v (.int .i64)], .lp 1700006 5 (us [.u, .u, .ptr 1000002 0] 9) [6] 3 0 none, .box 2000001 9 [.v .str], .box 1000002 23 [.slc 1500002], .arr 1500002 (.pair (.int .i64) (.pair (.int .i64) (.pair (.int .i64) .unit)))]⟩
def pb5_11_4 : SQ := ⟨us [.u, .u, .u, .u, .u, .u, .v (.int .i64)] 26, [us [.yld 1700006, .ptr 2000001 0, .u, .v (.int .i64), .ptr 3000004 0, .u, .v (.int .i64), .v .str, .v (.int .i64), .v .bool, .v .str, .v (.int .i64), .v (.int .u8), .v (.int .i64), .v .str, .v (.int .i64), .fn 18 [(3000004, 0)]] 13, us [.u, .u, .ptr 1000002 0] 9, [.yld 1700006], []], []⟩
def st5_11_4 {γ : Type} (rec : (List UInt8) → Int → Int → Int → Int → (List UInt8) → Int → Bool → (List UInt8) → Int → Int → Int → (List UInt8) → Int → Int → (List UInt8) → (List (Int × Int × Int × Unit)) → Option γ) (kE : Int → Int → Int → (List UInt8) → Int → Bool → (List UInt8) → Int → Int → Int → (List UInt8) → Int → Int → (List UInt8) → (List (Int × Int × Int × Unit)) → Option γ) (kR : Int → Int → Int → (List UInt8) → Int → Bool → (List UInt8) → Int → Int → Int → (List UInt8) → Int → Option γ) (v0 : List UInt8) (v1 : Int) (v2 : Int) (v3 : Int) (v4 : Int) (v5 : List UInt8) (v6 : Int) (v7 : Bool) (v8 : List UInt8) (v9 : Int) (v10 : Int) (v11 : Int) (v12 : List UInt8) (v13 : Int) (v14 : Int) (v15 : List UInt8) (v16 : List (Int × Int × Int × Unit)) : Option γ :=
  bif (ltI (addK .i64 v1 v2) (lenI v0)) then
    bif (inI v0 (addK .i64 v1 v2)) then
      obind (fn17 (byteAt v0 (addK .i64 v1 v2))) fun y0 =>
        bif (!(eqI y0.1 v14)) then
          kE v2 v3 v4 v5 v6 v7 v8 v9 v10 v11 v12 v13 v14 v15 v16
        else
        rec v0 v1 (addK .i64 v2 1) v3 v4 v5 v6 v7 v8 v9 v10 v11 v12 v13 v14 v15 v16
    else
    none
  else
  kE v2 v3 v4 v5 v6 v7 v8 v9 v10 v11 v12 v13 v14 v15 v16
def lp5_11_4 : Nat → (List UInt8) → Int → Int → Int → Int → (List UInt8) → Int → Bool → (List UInt8) → Int → Int → Int → (List UInt8) → Int → Int → (List UInt8) → (List (Int × Int × Int × Unit)) → Option (pa5_11_4.den ⊕ pb5_11_4.den)
  | 0, _, _, _, _, _, _, _, _, _, _, _, _, _, _, _, _, _ => none
  | n + 1, v0, v1, v2, v3, v4, v5, v6, v7, v8, v9, v10, v11, v12, v13, v14, v15, v16 => st5_11_4 (lp5_11_4 n) (fun e0 e1 e2 e3 e4 e5 e6 e7 e8 e9 e10 e11 e12 e13 e14 => some (.inl ((e0, ()), ((e1, e2, e3, e4, e5, e6, e7, e8, e9, e10, e11, ()), (), (), (), ()), ((e12, ()), (), (e13, ()), (), e14, ())))) (fun r0 r1 r2 r3 r4 r5 r6 r7 r8 r9 r10 r11 => some (.inr ((r0, ()), ((r1, r2, r3, r4, r5, r6, r7, r8, r9, r10, r11, ()), (), (), (), ()), ()))) v0 v1 v2 v3 v4 v5 v6 v7 v8 v9 v10 v11 v12 v13 v14 v15 v16
noncomputable def ls5_11_4 : LoopSum := loopBy2 k5_11_4 p5_11_4 pa5_11_4 pb5_11_4 (.exit 0) (fun v => lp5_11_4 fuelN v.1.1 v.1.2.1 v.1.2.2.1 v.2.1.1.1 v.2.1.1.2.1 v.2.1.1.2.2.1 v.2.1.1.2.2.2.1 v.2.1.1.2.2.2.2.1 v.2.1.1.2.2.2.2.2.1 v.2.1.1.2.2.2.2.2.2.1 v.2.1.1.2.2.2.2.2.2.2.1 v.2.1.1.2.2.2.2.2.2.2.2.1 v.2.1.1.2.2.2.2.2.2.2.2.2.1 v.2.1.1.2.2.2.2.2.2.2.2.2.2.1 v.2.2.1.1 v.2.2.2.2.1.1 v.2.2.2.2.2.2.1) 6
def p5_16_1 : SQ := ⟨us [.yld 1700006, .ptr 2000001 0, .u, .v (.int .i64)] 26, [us [.u, .u, .ptr 1000002 0] 9, [.yld 1700006], []], [.lp 1700006 5 (us [.u, .u, .ptr 1000002 0] 9) [6] 3 0 none, .box 2000001 9 [.v .str], .box 1000002 23 [.slc 1500002], .arr 1500002 (.pair (.int .i64) (.pair (.int .i64) (.pair (.int .i64) .unit)))]⟩
def pa5_16_1 : SQ := ⟨us [] 30, [us [.u, .u, .ptr 1000002 0] 9, [.yld 1700006], []], [.lp 1700006 5 (us [.u, .u, .ptr 1000002 0] 9) [6] 3 0 none, .box 2000001 9 [.v .str], .box 1000002 23 [.slc 1500002], .arr 1500002 (.pair (.int .i64) (.pair (.int .i64) (.pair (.int .i64) .unit)))]⟩
def pb5_16_1 : SQ := ⟨us [] 30, [us [.u, .u, .ptr 1000002 0] 9, [.yld 1700006], []], []⟩
def st5_16_1 {γ : Type} (rec : Int → (List UInt8) → (List (Int × Int × Int × Unit)) → Option γ) (kE : (List UInt8) → (List (Int × Int × Int × Unit)) → Option γ) (kR : Option γ) (v0 : Int) (v1 : List UInt8) (v2 : List (Int × Int × Int × Unit)) : Option γ :=
  bif (ltI v0 (lenI v1)) then
    bif (inI v1 v0) then
      obind (fn17 (byteAt v1 v0)) fun y0 =>
        bif (ltI v0 0) then
          bif (fitI (catL v2 [(y0.1, (v0, ((addK .i64 v0 0), ())))]) 24) then
            rec (addK .i64 v0 0) v1 (catL v2 [(y0.1, (v0, ((addK .i64 v0 0), ())))])
          else
          none
        else
        bif (leI (lenI v1) v0) then
          bif (fitI (catL v2 [(y0.1, (v0, ((addK .i64 v0 0), ())))]) 24) then
            rec (addK .i64 v0 0) v1 (catL v2 [(y0.1, (v0, ((addK .i64 v0 0), ())))])
          else
          none
        else
        obind (lp5_11_4 fuelN v1 v0 0 v0 v0 v1 (lenI v1) (ltI v0 (lenI v1)) v1 v0 (byteAt v1 v0) y0.1 v1 v0 y0.1 v1 v2) fun y1 =>
          osum y1 (fun a2 =>
            bif (fitI (catL a2.2.2.2.2.2.2.1 [(a2.2.2.1.1, (a2.2.1.1.1, ((addK .i64 a2.2.1.1.1 a2.1.1), ())))]) 24) then
              rec (addK .i64 a2.2.1.1.1 a2.1.1) a2.2.2.2.2.1.1 (catL a2.2.2.2.2.2.2.1 [(a2.2.2.1.1, (a2.2.1.1.1, ((addK .i64 a2.2.1.1.1 a2.1.1), ())))])
            else
            none) (fun b2 =>
            none)
    else
    none
  else
  kE v1 v2
def lp5_16_1 : Nat → Int → (List UInt8) → (List (Int × Int × Int × Unit)) → Option (pa5_16_1.den ⊕ pb5_16_1.den)
  | 0, _, _, _ => none
  | n + 1, v0, v1, v2 => st5_16_1 (lp5_16_1 n) (fun e0 e1 => some (.inl ((), ((), (), (), ()), ((), (e0, ()), (), e1, ())))) (some (.inr ((), ((), (), (), ()), ()))) v0 v1 v2
noncomputable def ls5_16_1 : LoopSum := loopBy2 k5_16_1 p5_16_1 pa5_16_1 pb5_16_1 (.exit 0) (fun v => lp5_16_1 fuelN v.1.1 v.2.2.2.1.1 v.2.2.2.2.2.1) 12
def fn5 (x0 : List UInt8) : Option ((List (Int × Int × Int × Unit)) × Unit) :=
  obind (lp5_16_1 fuelN 0 x0 []) fun y0 =>
    osum y0 (fun a1 =>
      some (a1.2.2.2.2.2.1, ())) (fun b1 =>
      none)
def sum5 : Sum := (⟨[.str], [(.list (.pair (.int .i64) (.pair (.int .i64) (.pair (.int .i64) .unit))), false)], fun x => fn5 x.1⟩ : Sum)
noncomputable def env5 : Env := envOf2 Try.prog tt [(17, sum17)] [(16, 1, k5_16_1), (11, 4, k5_11_4), (5, 500003, kr5_3)] [(11, 4, ls5_11_4), (16, 1, ls5_16_1)] [5]
theorem step5_11_4 {R : Type} (d : Nat) (n : Nat) (K : Ex → St → Option R) (v0 : List UInt8) (v1 : Int) (v2 : Int) (v3 : Int) (v4 : Int) (v5 : List UInt8) (v6 : Int) (v7 : Bool) (v8 : List UInt8) (v9 : Int) (v10 : Int) (v11 : Int) (v12 : List UInt8) (v13 : Int) (v14 : Int) (v15 : List UInt8) (v16 : List (Int × Int × Int × Unit)) :
    iter (some k5_11_4) (runD env5 (d + 6) 11 c5_11_4) (n + 1) (mkSt2 p5_11_4 ((v0, v1, v2, ()), ((v3, v4, v5, v6, v7, v8, v9, v10, v11, v12, v13, ()), (), (), (), ()), ((v14, ()), (), (v15, ()), (), v16, ()))) K =
      st5_11_4 (fun v0 v1 v2 v3 v4 v5 v6 v7 v8 v9 v10 v11 v12 v13 v14 v15 v16 => iter (some k5_11_4) (runD env5 (d + 6) 11 c5_11_4) n (mkSt2 p5_11_4 ((v0, v1, v2, ()), ((v3, v4, v5, v6, v7, v8, v9, v10, v11, v12, v13, ()), (), (), (), ()), ((v14, ()), (), (v15, ()), (), v16, ()))) K) (fun e0 e1 e2 e3 e4 e5 e6 e7 e8 e9 e10 e11 e12 e13 e14 => K (.exit 0) (mkSt2 pa5_11_4 ((e0, ()), ((e1, e2, e3, e4, e5, e6, e7, e8, e9, e10, e11, ()), (), (), (), ()), ((e12, ()), (), (e13, ()), (), e14, ())))) (fun r0 r1 r2 r3 r4 r5 r6 r7 r8 r9 r10 r11 => K .ret (mkSt2 pb5_11_4 ((r0, ()), ((r1, r2, r3, r4, r5, r6, r7, r8, r9, r10, r11, ()), (), (), (), ()), ()))) v0 v1 v2 v3 v4 v5 v6 v7 v8 v9 v10 v11 v12 v13 v14 v15 v16 := by kernel_rfl
theorem it5_11_4 {R : Type} (d : Nat) (K : Ex → St → Option R) : ∀ (n : Nat) (v0 : List UInt8) (v1 : Int) (v2 : Int) (v3 : Int) (v4 : Int) (v5 : List UInt8) (v6 : Int) (v7 : Bool) (v8 : List UInt8) (v9 : Int) (v10 : Int) (v11 : Int) (v12 : List UInt8) (v13 : Int) (v14 : Int) (v15 : List UInt8) (v16 : List (Int × Int × Int × Unit)),
    iter (some k5_11_4) (runD env5 (d + 6) 11 c5_11_4) n (mkSt2 p5_11_4 ((v0, v1, v2, ()), ((v3, v4, v5, v6, v7, v8, v9, v10, v11, v12, v13, ()), (), (), (), ()), ((v14, ()), (), (v15, ()), (), v16, ()))) K = obind (lp5_11_4 n v0 v1 v2 v3 v4 v5 v6 v7 v8 v9 v10 v11 v12 v13 v14 v15 v16) fun o => osum o (fun a => K (.exit 0) (mkSt2 pa5_11_4 a)) fun b => K .ret (mkSt2 pb5_11_4 b)
  | 0, _, _, _, _, _, _, _, _, _, _, _, _, _, _, _, _, _ => rfl
  | n + 1, v0, v1, v2, v3, v4, v5, v6, v7, v8, v9, v10, v11, v12, v13, v14, v15, v16 => by
    rw [step5_11_4]
    simp only [it5_11_4 d K n, lp5_11_4, st5_11_4, obind_cond, obind_none, obind_some, obind_obind, obind_osum]
    try simp only [osum]
theorem ok5_11_4 : LoopOk env5 11 c5_11_4 ls5_11_4 := loopBy2_ok (by kernel_rfl) fun R d K v o h => ⟨fuelN, (it5_11_4 d K fuelN (v.1.1) (v.1.2.1) (v.1.2.2.1) (v.2.1.1.1) (v.2.1.1.2.1) (v.2.1.1.2.2.1) (v.2.1.1.2.2.2.1) (v.2.1.1.2.2.2.2.1) (v.2.1.1.2.2.2.2.2.1) (v.2.1.1.2.2.2.2.2.2.1) (v.2.1.1.2.2.2.2.2.2.2.1) (v.2.1.1.2.2.2.2.2.2.2.2.1) (v.2.1.1.2.2.2.2.2.2.2.2.2.1) (v.2.1.1.2.2.2.2.2.2.2.2.2.2.1) (v.2.2.1.1) (v.2.2.2.2.1.1) (v.2.2.2.2.2.2.1)).trans (congrArg (fun o => obind o _) h)⟩
theorem step5_16_1 {R : Type} (d : Nat) (n : Nat) (K : Ex → St → Option R) (v0 : Int) (v1 : List UInt8) (v2 : List (Int × Int × Int × Unit)) :
    iter (some k5_16_1) (runD env5 (d + 12) 16 c5_16_1) (n + 1) (mkSt2 p5_16_1 ((v0, ()), ((), (), (), ()), ((), (v1, ()), (), v2, ()))) K =
      st5_16_1 (fun v0 v1 v2 => iter (some k5_16_1) (runD env5 (d + 12) 16 c5_16_1) n (mkSt2 p5_16_1 ((v0, ()), ((), (), (), ()), ((), (v1, ()), (), v2, ()))) K) (fun e0 e1 => K (.exit 0) (mkSt2 pa5_16_1 ((), ((), (), (), ()), ((), (e0, ()), (), e1, ())))) (K .ret (mkSt2 pb5_16_1 ((), ((), (), (), ()), ()))) v0 v1 v2 := by kernel_rfl
theorem it5_16_1 {R : Type} (d : Nat) (K : Ex → St → Option R) : ∀ (n : Nat) (v0 : Int) (v1 : List UInt8) (v2 : List (Int × Int × Int × Unit)),
    iter (some k5_16_1) (runD env5 (d + 12) 16 c5_16_1) n (mkSt2 p5_16_1 ((v0, ()), ((), (), (), ()), ((), (v1, ()), (), v2, ()))) K = obind (lp5_16_1 n v0 v1 v2) fun o => osum o (fun a => K (.exit 0) (mkSt2 pa5_16_1 a)) fun b => K .ret (mkSt2 pb5_16_1 b)
  | 0, _, _, _ => rfl
  | n + 1, v0, v1, v2 => by
    rw [step5_16_1]
    simp only [it5_16_1 d K n, lp5_16_1, st5_16_1, obind_cond, obind_none, obind_some, obind_obind, obind_osum]
    try simp only [osum]
theorem ok5_16_1 : LoopOk env5 16 c5_16_1 ls5_16_1 := loopBy2_ok (by kernel_rfl) fun R d K v o h => ⟨fuelN, (it5_16_1 d K fuelN (v.1.1) (v.2.2.2.1.1) (v.2.2.2.2.2.1)).trans (congrArg (fun o => obind o _) h)⟩
theorem run5 (x0 : List UInt8) : runF env5 5 [.str] [(.list (.pair (.int .i64) (.pair (.int .i64) (.pair (.int .i64) .unit))), false)] (x0, ()) = fn5 x0 := by kernel_rfl
theorem lat5 : loopsAt b5 = [] := by kernel_rfl
theorem rat5 : rangesAt b5 = [(cA (cA (cB (cA (cB (b5))))), cB (cA (cB (cA (cB (b5))))))] := by kernel_rfl
theorem lok5 : loopsOk env5 5 b5 := loopsOk_at2 b5 (by rw [rat5]; exact (List.forall_mem_cons.2 ⟨(fun _ => (show rfTab 5 3 = some (cA (cA (cB (cA (cB (b5))))), cB (cA (cB (cA (cB (b5)))))) by kernel_rfl)), (fun _ h => absurd h List.not_mem_nil)⟩)) (by rw [lat5]; exact (fun _ h => absurd h List.not_mem_nil))
theorem lat5_16 : loopsAt b5_16 = [c5_16_1] := by kernel_rfl
theorem lok5_16 : loopsOk env5 16 b5_16 := loopsOk_at b5_16 (fun _ => rfl) (by rw [lat5_16]; exact (List.forall_mem_cons.2 ⟨(fun L h => by rw [show env5.lp 16 (firstRegion c5_16_1) = some ls5_16_1 by kernel_rfl] at h; cases h; exact ok5_16_1), (fun _ h => absurd h List.not_mem_nil)⟩))
theorem lat5_11 : loopsAt b5_11 = [c5_11_4] := by kernel_rfl
theorem lok5_11 : loopsOk env5 11 b5_11 := loopsOk_at b5_11 (fun _ => rfl) (by rw [lat5_11]; exact (List.forall_mem_cons.2 ⟨(fun L h => by rw [show env5.lp 11 (firstRegion c5_11_4) = some ls5_11_4 by kernel_rfl] at h; cases h; exact ok5_11_4), (fun _ h => absurd h List.not_mem_nil)⟩))
theorem env5_ok : EnvOk env5 := envOf2_ok tok mixed noGor (sg := [(17, sum17)]) (List.forall_mem_cons.2 ⟨(sum17_ok), (fun _ h => absurd h List.not_mem_nil)⟩) [5, 16, 11] (by kernel_rfl) (by kernel_rfl) (List.forall_mem_cons.2 ⟨⟨Try.f5, b5, by kernel_rfl, by kernel_rfl, lok5⟩, (List.forall_mem_cons.2 ⟨⟨Try.f16, b5_16, by kernel_rfl, by kernel_rfl, lok5_16⟩, (List.forall_mem_cons.2 ⟨⟨Try.f11, b5_11, by kernel_rfl, by kernel_rfl, lok5_11⟩, (fun _ h => absurd h List.not_mem_nil)⟩)⟩)⟩) rf_ok chk_ok
theorem sum5_ok : SumOk Try.prog 5 sum5 := sum_of_run env5_ok (by decide) fun x y h => (run5 (x.1)).trans h

/-! ### quillwort/quillwortref04.In -/
noncomputable def b19 : Code := (Try.f19.body).getD .skip
noncomputable def c19_2 : Code := cA (cA (cB (cA (cB (b19)))))
def k19_2 : Keep := ⟨[0, 1, 5, 100002], [], [], [], [4], []⟩
def p19_2 : SP := ⟨us [.v (.int .u8), .v .str, .u, .u, .u, .v (.int .i64)] 11, []⟩
def pa19_2 : SP := ⟨us [] 17, []⟩
def pb19_2 : SP := ⟨us [.u, .u, .u, .u, .v .bool] 12, []⟩
def st19_2 {γ : Type} (rec : Int → (List UInt8) → Int → Option γ) (kE : Option γ) (kR : Bool → Option γ) (v0 : Int) (v1 : List UInt8) (v2 : Int) : Option γ :=
  bif (ltI v2 (lenI v1)) then
    bif (inI v1 v2) then
      bif (eqI (byteAt v1 v2) v0) then
        kR true
      else
      rec v0 v1 (addK .i64 v2 1)
    else
    none
  else
  kE 
def lp19_2 : Nat → Int → (List UInt8) → Int → Option (pa19_2.den ⊕ pb19_2.den)
  | 0, _, _, _ => none
  | n + 1, v0, v1, v2 => st19_2 (lp19_2 n) (some (.inl ((), ()))) (fun r0 => some (.inr ((r0, ()), ()))) v0 v1 v2
noncomputable def ls19_2 : LoopSum := loopBy k19_2 p19_2 pa19_2 pb19_2 (.exit 0) (fun v => lp19_2 fuelN v.1.1 v.1.2.1 v.1.2.2.1) 6
def fn19 (x0 : Int) (x1 : List UInt8) : Option (Bool × Unit) :=
  obind (lp19_2 fuelN x0 x1 0) fun y0 =>
    osum y0 (fun a1 =>
      some (false, ())) (fun b1 =>
      some (b1.1.1, ()))
def sum19 : Sum := (⟨[.int .u8, .str], [(.bool, false)], fun x => fn19 x.1 x.2.1⟩ : Sum)
noncomputable def env19 : Env := envOf Try.prog tt 19 [] [(2, k19_2)] [(2, ls19_2)]
theorem step19_2 {R : Type} (d : Nat) (n : Nat) (K : Ex → St → Option R) (v0 : Int) (v1 : List UInt8) (v2 : Int) :
    iter (some k19_2) (runD env19 (d + 6) 19 c19_2) (n + 1) (mkSt p19_2 ((v0, v1, v2, ()), ())) K =
      st19_2 (fun v0 v1 v2 => iter (some k19_2) (runD env19 (d + 6) 19 c19_2) n (mkSt p19_2 ((v0, v1, v2, ()), ())) K) (K (.exit 0) (mkSt pa19_2 ((), ()))) (fun r0 => K .ret (mkSt pb19_2 ((r0, ()), ()))) v0 v1 v2 := by kernel_rfl
theorem it19_2 {R : Type} (d : Nat) (K : Ex → St → Option R) : ∀ (n : Nat) (v0 : Int) (v1 : List UInt8) (v2 : Int),
    iter (some k19_2) (runD env19 (d + 6) 19 c19_2) n (mkSt p19_2 ((v0, v1, v2, ()), ())) K = obind (lp19_2 n v0 v1 v2) fun o => osum o (fun a => K (.exit 0) (mkSt pa19_2 a)) fun b => K .ret (mkSt pb19_2 b)
  | 0, _, _, _ => rfl
  | n + 1, v0, v1, v2 => by
    rw [step19_2]
    simp only [it19_2 d K n, lp19_2, st19_2, obind_cond, obind_none, obind_some, obind_obind, obind_osum]
    try simp only [osum]
theorem ok19_2 : LoopOk env19 19 c19_2 ls19_2 := loopBy_ok (by kernel_rfl) fun R d K v o h => ⟨fuelN, (it19_2 d K fuelN (v.1.1) (v.1.2.1) (v.1.2.2.1)).trans (congrArg (fun o => obind o _) h)⟩
theorem run19 (x0 : Int) (x1 : List UInt8) : runF env19 19 [.int .u8, .str] [(.bool, false)] (x0, x1, ()) = fn19 x0 x1 := by kernel_rfl
theorem lat19 : loopsAt b19 = [c19_2] := by kernel_rfl
theorem lok19 : loopsOk env19 19 b19 := loopsOk_at b19 (fun _ => rfl) (by rw [lat19]; exact (List.forall_mem_cons.2 ⟨(fun L h => by rw [show env19.lp 19 (firstRegion c19_2) = some ls19_2 by kernel_rfl] at h; cases h; exact ok19_2), (fun _ h => absurd h List.not_mem_nil)⟩))
theorem env19_ok : EnvOk env19 := envOf_ok tok mixed noGor (sg := []) (fun _ h => absurd h List.not_mem_nil) (fn := Try.f19) (c := b19) (by kernel_rfl) (by kernel_rfl) lok19 rf_ok chk_ok
theorem sum19_ok : SumOk Try.prog 19 sum19 := sum_of_run env19_ok (by decide) fun x y h => (run19 (x.1) (x.2.1)).trans h

/-! ### quillwort/quillwortref04.Class -/
def fn10 (x0 : Int) : Option (Int × Unit) :=
  bif (eqI x0 32) then
    some (1, ())
  else
  bif (eqI x0 9) then
    some (1, ())
  else
  bif (eqI x0 10) then
    some (2, ())
  else
  obind (fn19 x0 [124, 38, 59, 60, 62, 40, 41]) fun y0 =>
    bif y0.1 then
      some (3, ())
    else
    obind (fn19 x0 [92, 39, 34, 96, 36]) fun y1 =>
      bif y1.1 then
        some (4, ())
      else
      obind (fn19 x0 [65, 66, 67, 68, 69, 70, 71, 72, 73, 74, 75, 76, 77, 78, 79, 80, 81, 82, 83, 84, 85, 86, 87, 88, 89, 90, 97, 98, 99, 100, 101, 102, 103, 104, 105, 106, 107, 108, 109, 110, 111, 112, 113, 114, 115, 116, 117, 118, 119, 120, 121, 122, 95]) fun y2 =>
        bif y2.1 then
          some (5, ())
        else
        obind (fn19 x0 [48, 49, 50, 51, 52, 53, 54, 55, 56, 57]) fun y3 =>
          bif y3.1 then
            some (6, ())
          else
          some (0, ())
def sum10 : Sum := (⟨[.int .u8], [(.int .i64, false)], fun x => fn10 x.1⟩ : Sum)
noncomputable def env10 : Env := envOf Try.prog tt 10 [(19, sum19)] [] []
theorem run10 (x0 : Int) : runF env10 10 [.int .u8] [(.int .i64, false)] (x0, ()) = fn10 x0 := by kernel_rfl
theorem env10_ok : EnvOk env10 := envOf_ok tok mixed noGor (sg := [(19, sum19)]) (List.forall_mem_cons.2 ⟨(sum19_ok), (fun _ h => absurd h List.not_mem_nil)⟩) (fn := Try.f10) (c := (Try.f10.body).getD .skip) (by kernel_rfl) (by kernel_rfl) (loopsOk_none (fun _ => rfl) (fun _ => rfl) _) rf_ok chk_ok
theorem sum10_ok : SumOk Try.prog 10 sum10 := sum_of_run env10_ok (by decide) fun x y h => (run10 (x.1)).trans h

/-! ### quillwort/quillwortref04.All -/
noncomputable def b6 : Code := (Try.f6.body).getD .skip
noncomputable def c6_2 : Code := cA (cA (cB (cA (cB (b6)))))
def k6_2 : Keep := ⟨[0, 1, 5, 100002], [], [], [], [4], []⟩
def p6_2 : SP := ⟨us [.v .str, .v (.int .i64), .u, .u, .u, .v (.int .i64)] 12, []⟩
def pa6_2 : SP := ⟨us [] 18, []⟩
def pb6_2 : SP := ⟨us [.u, .u, .u, .u, .v .bool] 13, []⟩
def st6_2 {γ : Type} (rec : (List UInt8) → Int → Int → Option γ) (kE : Option γ) (kR : Bool → Option γ) (v0 : List UInt8) (v1 : Int) (v2 : Int) : Option γ :=
  bif (ltI v2 (lenI v0)) then
    bif (inI v0 v2) then
      obind (fn10 (byteAt v0 v2)) fun y0 =>
        bif (!(eqI y0.1 v1)) then
          kR false
        else
        rec v0 v1 (addK .i64 v2 1)
    else
    none
  else
  kE 
def lp6_2 : Nat → (List UInt8) → Int → Int → Option (pa6_2.den ⊕ pb6_2.den)
  | 0, _, _, _ => none
  | n + 1, v0, v1, v2 => st6_2 (lp6_2 n) (some (.inl ((), ()))) (fun r0 => some (.inr ((r0, ()), ()))) v0 v1 v2
noncomputable def ls6_2 : LoopSum := loopBy k6_2 p6_2 pa6_2 pb6_2 (.exit 0) (fun v => lp6_2 fuelN v.1.1 v.1.2.1 v.1.2.2.1) 6
def fn6 (x0 : List UInt8) (x1 : Int) : Option (Bool × Unit) :=
  obind (lp6_2 fuelN x0 x1 0) fun y0 =>
    osum y0 (fun a1 =>
      some (true, ())) (fun b1 =>
      some (b1.1.1, ()))
def sum6 : Sum := (⟨[.str, .int .i64], [(.bool, false)], fun x => fn6 x.1 x.2.1⟩ : Sum)
noncomputable def env6 : Env := envOf Try.prog tt 6 [(10, sum10)] [(2, k6_2)] [(2, ls6_2)]
theorem step6_2 {R : Type} (d : Nat) (n : Nat) (K : Ex → St → Option R) (v0 : List UInt8) (v1 : Int) (v2 : Int) :
    iter (some k6_2) (runD env6 (d + 6) 6 c6_2) (n + 1) (mkSt p6_2 ((v0, v1, v2, ()), ())) K =
      st6_2 (fun v0 v1 v2 => iter (some k6_2) (runD env6 (d + 6) 6 c6_2) n (mkSt p6_2 ((v0, v1, v2, ()), ())) K) (K (.exit 0) (mkSt pa6_2 ((), ()))) (fun r0 => K .ret (mkSt pb6_2 ((r0, ()), ()))) v0 v1 v2 := by kernel_rfl
theorem it6_2 {R : Type} (d : Nat) (K : Ex → St → Option R) : ∀ (n : Nat) (v0 : List UInt8) (v1 : Int) (v2 : Int),
    iter (some k6_2) (runD env6 (d + 6) 6 c6_2) n (mkSt p6_2 ((v0, v1, v2, ()), ())) K = obind (lp6_2 n v0 v1 v2) fun o => osum o (fun a => K (.exit 0) (mkSt pa6_2 a)) fun b => K .ret (mkSt pb6_2 b)
  | 0, _, _, _ => rfl
  | n + 1, v0, v1, v2 => by
    rw [step6_2]
    simp only [it6_2 d K n, lp6_2, st6_2, obind_cond, obind_none, obind_some, obind_obind, obind_osum]
    try simp only [osum]
theorem ok6_2 : LoopOk env6 6 c6_2 ls6_2 := loopBy_ok (by kernel_rfl) fun R d K v o h => ⟨fuelN, (it6_2 d K fuelN (v.1.1) (v.1.2.1) (v.1.2.2.1)).trans (congrArg (fun o => obind o _) h)⟩
theorem run6 (x0 : List UInt8) (x1 : Int) : runF env6 6 [.str, .int .i64] [(.bool, false)] (x0, x1, ()) = fn6 x0 x1 := by kernel_rfl
theorem lat6 : loopsAt b6 = [c6_2] := by kernel_rfl
theorem lok6 : loopsOk env6 6 b6 := loopsOk_at b6 (fun _ => rfl) (by rw [lat6]; exact (List.forall_mem_cons.2 ⟨(fun L h => by rw [show env6.lp 6 (firstRegion c6_2) = some ls6_2 by kernel_rfl] at h; cases h; exact ok6_2), (fun _ h => absurd h List.not_mem_nil)⟩))
theorem env6_ok : EnvOk env6 := envOf_ok tok mixed noGor (sg := [(10, sum10)]) (List.forall_mem_cons.2 ⟨(sum10_ok), (fun _ h => absurd h List.not_mem_nil)⟩) (fn := Try.f6) (c := b6) (by kernel_rfl) (by kernel_rfl) lok6 rf_ok chk_ok
theorem sum6_ok : SumOk Try.prog 6 sum6 := sum_of_run env6_ok (by decide) fun x y h => (run6 (x.1) (x.2.1)).trans h

/-! ### quillwort/quillwortlaw04.ClassRuns -/
noncomputable def b3 : Code := (Try.f3.body).getD .skip
noncomputable def c3_8 : Code := cA (cA (cB (cA (cB (cB (cB (cB (cB (b3)))))))))
def k3_8 : Keep := ⟨[0, 3, 4, 5, 100008], [], [0, 4], [], [2], []⟩
def p3_8 : SP := ⟨us [.v .str, .u, .u, .v (.list (.pair (.int .i64) (.pair (.int .i64) (.pair (.int .i64) .unit)))), .v (.int .i64), .v (.int .i64)] 81, []⟩
def pa3_8 : SP := ⟨us [.v .str, .u, .u, .u, .v (.int .i64)] 82, []⟩
def pb3_8 : SP := ⟨us [.u, .u, .v .bool] 84, []⟩
def st3_8 {γ : Type} (rec : (List UInt8) → (List (Int × Int × Int × Unit)) → Int → Int → Option γ) (kE : (List UInt8) → Int → Option γ) (kR : Bool → Option γ) (v0 : List UInt8) (v1 : List (Int × Int × Int × Unit)) (v2 : Int) (v3 : Int) : Option γ :=
  bif (ltI v3 (lenI v1)) then
    bif (inI v1 v3) then
      bif (!(eqI (getI v1 (0, (0, (0, ()))) v3).2.1 v2)) then
        kR false
      else
      bif (inI v1 v3) then
        bif (leI (getI v1 (0, (0, (0, ()))) v3).2.2.1 v2) then
          kR false
        else
        bif (inI v1 v3) then
          bif (ltI (lenI v0) (getI v1 (0, (0, (0, ()))) v3).2.2.1) then
            kR false
          else
          bif (ltI 0 v3) then
            bif (inI v1 (subK .i64 v3 1)) then
              bif (inI v1 v3) then
                bif (eqI (getI v1 (0, (0, (0, ()))) (subK .i64 v3 1)).1 (getI v1 (0, (0, (0, ()))) v3).1) then
                  kR false
                else
                bif (inI v1 v3) then
                  bif (partI (lenI v0) v2 (getI v1 (0, (0, (0, ()))) v3).2.2.1) then
                    bif (inI v1 v3) then
                      obind (fn6 (sub v0 v2 (getI v1 (0, (0, (0, ()))) v3).2.2.1) (getI v1 (0, (0, (0, ()))) v3).1) fun y0 =>
                        bif (!y0.1) then
                          kR false
                        else
                        bif (inI v1 v3) then
                          rec v0 v1 (getI v1 (0, (0, (0, ()))) v3).2.2.1 (addK .i64 v3 1)
                        else
                        none
                    else
                    none
                  else
                  none
                else
                none
              else
              none
            else
            none
          else
          bif (inI v1 v3) then
            bif (partI (lenI v0) v2 (getI v1 (0, (0, (0, ()))) v3).2.2.1) then
              bif (inI v1 v3) then
                obind (fn6 (sub v0 v2 (getI v1 (0, (0, (0, ()))) v3).2.2.1) (getI v1 (0, (0, (0, ()))) v3).1) fun y0 =>
                  bif (!y0.1) then
                    kR false
                  else
                  bif (inI v1 v3) then
                    rec v0 v1 (getI v1 (0, (0, (0, ()))) v3).2.2.1 (addK .i64 v3 1)
                  else
                  none
              else
              none
            else
            none
          else
          none
        else
        none
      else
      none
    else
    none
  else
  kE v0 v2
def lp3_8 : Nat → (List UInt8) → (List (Int × Int × Int × Unit)) → Int → Int → Option (pa3_8.den ⊕ pb3_8.den)
  | 0, _, _, _, _ => none
  | n + 1, v0, v1, v2, v3 => st3_8 (lp3_8 n) (fun e0 e1 => some (.inl ((e0, e1, ()), ()))) (fun r0 => some (.inr ((r0, ()), ()))) v0 v1 v2 v3
noncomputable def ls3_8 : LoopSum := loopBy k3_8 p3_8 pa3_8 pb3_8 (.exit 0) (fun v => lp3_8 fuelN v.1.1 v.1.2.1 v.1.2.2.1 v.1.2.2.2.1) 6
def fn3 (x0 : List UInt8) : Option (Bool × Unit) :=
  bif (ltI 200 (lenI x0)) then
    some (true, ())
  else
  obind (fn5 x0) fun y0 =>
    obind (lp3_8 fuelN x0 y0.1 0 0) fun y1 =>
      osum y1 (fun a2 =>
        some ((eqI a2.1.2.1 (lenI a2.1.1)), ())) (fun b2 =>
        some (b2.1.1, ()))
def sum3 : Sum := (⟨[.str], [(.bool, false)], fun x => fn3 x.1⟩ : Sum)
noncomputable def env3 : Env := envOf Try.prog tt 3 [(4, sumAwake), (5, sum5), (6, sum6)] [(8, k3_8)] [(8, ls3_8)]
theorem step3_8 {R : Type} (d : Nat) (n : Nat) (K : Ex → St → Option R) (v0 : List UInt8) (v1 : List (Int × Int × Int × Unit)) (v2 : Int) (v3 : Int) :
    iter (some k3_8) (runD env3 (d + 6) 3 c3_8) (n + 1) (mkSt p3_8 ((v0, v1, v2, v3, ()), ())) K =
      st3_8 (fun v0 v1 v2 v3 => iter (some k3_8) (runD env3 (d + 6) 3 c3_8) n (mkSt p3_8 ((v0, v1, v2, v3, ()), ())) K) (fun e0 e1 => K (.exit 0) (mkSt pa3_8 ((e0, e1, ()), ()))) (fun r0 => K .ret (mkSt pb3_8 ((r0, ()), ()))) v0 v1 v2 v3 := by kernel_rfl
theorem it3_8 {R : Type} (d : Nat) (K : Ex → St → Option R) : ∀ (n : Nat) (v0 : List UInt8) (v1 : List (Int × Int × Int × Unit)) (v2 : Int) (v3 : Int),
    iter (some k3_8) (runD env3 (d + 6) 3 c3_8) n (mkSt p3_8 ((v0, v1, v2, v3, ()), ())) K = obind (lp3_8 n v0 v1 v2 v3) fun o => osum o (fun a => K (.exit 0) (mkSt pa3_8 a)) fun b => K .ret (mkSt pb3_8 b)
  | 0, _, _, _, _ => rfl
  | n + 1, v0, v1, v2, v3 => by
    rw [step3_8]
    simp only [it3_8 d K n, lp3_8, st3_8, obind_cond, obind_none, obind_some, obind_obind, obind_osum]
    try simp only [osum]
theorem ok3_8 : LoopOk env3 3 c3_8 ls3_8 := loopBy_ok (by kernel_rfl) fun R d K v o h => ⟨fuelN, (it3_8 d K fuelN (v.1.1) (v.1.2.1) (v.1.2.2.1) (v.1.2.2.2.1)).trans (congrArg (fun o => obind o _) h)⟩
theorem run3 (x0 : List UInt8) : runF env3 3 [.str] [(.bool, false)] (x0, ()) = fn3 x0 := by kernel_rfl
theorem lat3 : loopsAt b3 = [c3_8] := by kernel_rfl
theorem lok3 : loopsOk env3 3 b3 := loopsOk_at b3 (fun _ => rfl) (by rw [lat3]; exact (List.forall_mem_cons.2 ⟨(fun L h => by rw [show env3.lp 3 (firstRegion c3_8) = some ls3_8 by kernel_rfl] at h; cases h; exact ok3_8), (fun _ h => absurd h List.not_mem_nil)⟩))
theorem env3_ok : EnvOk env3 := envOf_ok tok mixed noGor (sg := [(4, sumAwake), (5, sum5), (6, sum6)]) (List.forall_mem_cons.2 ⟨(sumAwake_ok), (List.forall_mem_cons.2 ⟨(sum5_ok), (List.forall_mem_cons.2 ⟨(sum6_ok), (fun _ h => absurd h List.not_mem_nil)⟩)⟩)⟩) (fn := Try.f3) (c := b3) (by kernel_rfl) (by kernel_rfl) lok3 rf_ok chk_ok
theorem sum3_ok : SumOk Try.prog 3 sum3 := sum_of_run env3_ok (by decide) fun x y h => (run3 (x.1)).trans h

end Go.Proofs.Ytacflfpffpbkiaa
