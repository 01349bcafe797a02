/-
  The plain functions of some functions of the program, and that they are computed.
-/
import Derived.Test.YtipbcgjogddigaaGreatDoorEb
import Derived.Test.YtipbcgjogddigaaGreatDoorKa
namespace Go.Proofs.YtipbcgjogddigaaGreatDoor
open Go.RowKit
set_option linter.unusedVariables false
set_option linter.unusedSimpArgs false
set_option maxRecDepth 100000


/-! ### quillwort/quillwortlaw31.digits -/
def fn6 (x0 : Int) : Option ((List UInt8) × Unit) :=
  bif (ltI 99 x0) then
    bif (!(eqI 100 0)) then
      bif (!(eqI 100 0)) then
        bif (partI (lenI [48, 49, 50, 51, 52, 53, 54, 55, 56, 57]) (divK .i64 x0 100) (addK .i64 (divK .i64 x0 100) 1)) then
          bif (!(eqI 10 0)) then
            bif (!(eqI 10 0)) then
              bif (!(eqI 10 0)) then
                bif (!(eqI 10 0)) then
                  bif (partI (lenI [48, 49, 50, 51, 52, 53, 54, 55, 56, 57]) (remI (divK .i64 x0 10) 10) (addK .i64 (remI (divK .i64 x0 10) 10) 1)) then
                    bif (roomS (sub [48, 49, 50, 51, 52, 53, 54, 55, 56, 57] (divK .i64 x0 100) (addK .i64 (divK .i64 x0 100) 1)) (sub [48, 49, 50, 51, 52, 53, 54, 55, 56, 57] (remI (divK .i64 x0 10) 10) (addK .i64 (remI (divK .i64 x0 10) 10) 1))) then
                      bif (!(eqI 10 0)) then
                        bif (!(eqI 10 0)) then
                          bif (partI (lenI [48, 49, 50, 51, 52, 53, 54, 55, 56, 57]) (remI x0 10) (addK .i64 (remI x0 10) 1)) then
                            bif (roomS (catL (sub [48, 49, 50, 51, 52, 53, 54, 55, 56, 57] (divK .i64 x0 100) (addK .i64 (divK .i64 x0 100) 1)) (sub [48, 49, 50, 51, 52, 53, 54, 55, 56, 57] (remI (divK .i64 x0 10) 10) (addK .i64 (remI (divK .i64 x0 10) 10) 1))) (sub [48, 49, 50, 51, 52, 53, 54, 55, 56, 57] (remI x0 10) (addK .i64 (remI x0 10) 1))) then
                              some ((catL (catL (sub [48, 49, 50, 51, 52, 53, 54, 55, 56, 57] (divK .i64 x0 100) (addK .i64 (divK .i64 x0 100) 1)) (sub [48, 49, 50, 51, 52, 53, 54, 55, 56, 57] (remI (divK .i64 x0 10) 10) (addK .i64 (remI (divK .i64 x0 10) 10) 1))) (sub [48, 49, 50, 51, 52, 53, 54, 55, 56, 57] (remI x0 10) (addK .i64 (remI x0 10) 1))), ())
                            else
                            none
                          else
                          none
                        else
                        none
                      else
                      none
                    else
                    none
                  else
                  none
                else
                none
              else
              none
            else
            none
          else
          none
        else
        none
      else
      none
    else
    none
  else
  bif (ltI 9 x0) then
    bif (!(eqI 10 0)) then
      bif (!(eqI 10 0)) then
        bif (partI (lenI [48, 49, 50, 51, 52, 53, 54, 55, 56, 57]) (divK .i64 x0 10) (addK .i64 (divK .i64 x0 10) 1)) then
          bif (!(eqI 10 0)) then
            bif (!(eqI 10 0)) then
              bif (partI (lenI [48, 49, 50, 51, 52, 53, 54, 55, 56, 57]) (remI x0 10) (addK .i64 (remI x0 10) 1)) then
                bif (roomS (sub [48, 49, 50, 51, 52, 53, 54, 55, 56, 57] (divK .i64 x0 10) (addK .i64 (divK .i64 x0 10) 1)) (sub [48, 49, 50, 51, 52, 53, 54, 55, 56, 57] (remI x0 10) (addK .i64 (remI x0 10) 1))) then
                  some ((catL (sub [48, 49, 50, 51, 52, 53, 54, 55, 56, 57] (divK .i64 x0 10) (addK .i64 (divK .i64 x0 10) 1)) (sub [48, 49, 50, 51, 52, 53, 54, 55, 56, 57] (remI x0 10) (addK .i64 (remI x0 10) 1))), ())
                else
                none
              else
              none
            else
            none
          else
          none
        else
        none
      else
      none
    else
    none
  else
  bif (partI (lenI [48, 49, 50, 51, 52, 53, 54, 55, 56, 57]) x0 (addK .i64 x0 1)) then
    some ((sub [48, 49, 50, 51, 52, 53, 54, 55, 56, 57] x0 (addK .i64 x0 1)), ())
  else
  none
def sum6 : Sum := (⟨[.int .i64], [(.str, false)], fun x => fn6 x.1⟩ : Sum)
noncomputable def env6 : Env := envOf Tryz.prog tt 6 [] [] []
theorem run6 (x0 : Int) : runF env6 6 [.int .i64] [(.str, false)] (x0, ()) = fn6 x0 := by kernel_rfl
theorem env6_ok : EnvOk env6 := envOf_ok tok mixed noGor (sg := []) (fun _ h => absurd h List.not_mem_nil) (fn := Tryz.f6) (c := (Tryz.f6.body).getD .skip) (by kernel_rfl) (by kernel_rfl) (loopsOk_none (fun _ => rfl) (fun _ => rfl) _) rf_ok chk_ok
theorem sum6_ok : SumOk Tryz.prog 6 sum6 := sum_of_run env6_ok (by decide) fun x y h => (run6 (x.1)).trans h

/-! ### quillwort/diag.Line -/
def fn5 (x0 : Int × Int × (List UInt8) × (Unit)) : Option ((List UInt8) × Unit) :=
  obind (itoaF x0.1) fun y0 =>
    bif (roomS y0.1 [58]) then
      obind (itoaF x0.2.1) fun y1 =>
        bif (roomS (catL y0.1 [58]) y1.1) then
          bif (roomS (catL (catL y0.1 [58]) y1.1) [58, 32]) then
            bif (roomS (catL (catL (catL y0.1 [58]) y1.1) [58, 32]) x0.2.2.1) then
              some ((catL (catL (catL (catL y0.1 [58]) y1.1) [58, 32]) x0.2.2.1), ())
            else
            none
          else
          none
        else
        none
    else
    none
def sum5 : Sum := (⟨[.pair (.int .i64) (.pair (.int .i64) (.pair .str .unit))], [(.str, false)], fun x => fn5 x.1⟩ : Sum)
noncomputable def env5 : Env := envOf Tryz.prog tt 5 [(9, sumItoa)] [] []
theorem run5 (x0 : Int × Int × (List UInt8) × (Unit)) : runF env5 5 [.pair (.int .i64) (.pair (.int .i64) (.pair .str .unit))] [(.str, false)] (x0, ()) = fn5 x0 := by kernel_rfl
theorem env5_ok : EnvOk env5 := envOf_ok tok mixed noGor (sg := [(9, sumItoa)]) (List.forall_mem_cons.2 ⟨(sumItoa_ok), (fun _ h => absurd h List.not_mem_nil)⟩) (fn := Tryz.f5) (c := (Tryz.f5.body).getD .skip) (by kernel_rfl) (by kernel_rfl) (loopsOk_none (fun _ => rfl) (fun _ => rfl) _) rf_ok chk_ok
theorem sum5_ok : SumOk Tryz.prog 5 sum5 := sum_of_run env5_ok (by decide) fun x y h => (run5 (x.1)).trans h

/-! ### quillwort/quillwortlaw31.DiagLines -/
def fn3 (x0 : Int) (x1 : Int) (x2 : List UInt8) : Option (Bool × Unit) :=
  bif (ltI 999 x0) then
    some (true, ())
  else
  bif (ltI 999 x1) then
    some (true, ())
  else
  bif (ltI 60 (lenI x2)) then
    some (true, ())
  else
  obind (fn5 ((wrapK .i64 x0), ((wrapK .i64 x1), (x2, ())))) fun y0 =>
    obind (fn6 (wrapK .i64 x0)) fun y1 =>
      bif (roomS y1.1 [58]) then
        obind (fn6 (wrapK .i64 x1)) fun y2 =>
          bif (roomS (catL y1.1 [58]) y2.1) then
            bif (roomS (catL (catL y1.1 [58]) y2.1) [58, 32]) then
              bif (roomS (catL (catL (catL y1.1 [58]) y2.1) [58, 32]) x2) then
                some ((eqS y0.1 (catL (catL (catL (catL y1.1 [58]) y2.1) [58, 32]) x2)), ())
              else
              none
            else
            none
          else
          none
      else
      none
def sum3 : Sum := (⟨[.int .u16, .int .u16, .str], [(.bool, false)], fun x => fn3 x.1 x.2.1 x.2.2.1⟩ : Sum)
noncomputable def env3 : Env := envOf Tryz.prog tt 3 [(4, sumAwake), (5, sum5), (6, sum6)] [] []
theorem run3 (x0 : Int) (x1 : Int) (x2 : List UInt8) : runF env3 3 [.int .u16, .int .u16, .str] [(.bool, false)] (x0, x1, x2, ()) = fn3 x0 x1 x2 := by kernel_rfl
theorem env3_ok : EnvOk env3 := envOf_ok tok mixed noGor (sg := [(4, sumAwake), (5, sum5), (6, sum6)]) (List.forall_mem_cons.2 ⟨(sumAwake_ok), (List.forall_mem_cons.2 ⟨(sum5_ok), (List.forall_mem_cons.2 ⟨(sum6_ok), (fun _ h => absurd h List.not_mem_nil)⟩)⟩)⟩) (fn := Tryz.f3) (c := (Tryz.f3.body).getD .skip) (by kernel_rfl) (by kernel_rfl) (loopsOk_none (fun _ => rfl) (fun _ => rfl) _) rf_ok chk_ok
theorem sum3_ok : SumOk Tryz.prog 3 sum3 := sum_of_run env3_ok (by decide) fun x y h => (run3 (x.1) (x.2.1) (x.2.2.1)).trans h

end Go.Proofs.YtipbcgjogddigaaGreatDoor
