/-
  The plain functions of some functions of the program, and that they are computed.
-/
import Derived.Test.YtodjipegjpnacaaGreatDoorE
import Derived.Test.YtodjipegjpnacaaGreatDoorKa
namespace Go.Proofs.YtodjipegjpnacaaGreatDoor
open Go.RowKit
set_option linter.unusedVariables false
set_option linter.unusedSimpArgs false
set_option maxRecDepth 100000


/-! ### quillwort/context.Offers -/
def fn5 (x0 : Int × Int × Int × Int × (List UInt8) × (Bool × (List UInt8) × (Int × Int × Unit))) : Option (Bool × Unit) :=
  bif (eqI x0.1 2) then
    some (true, ())
  else
  bif (eqI x0.1 1) then
    bif (eqI x0.2.1 1) then
      bif (eqI x0.2.1 1) then
        some (x0.2.2.2.2.2.1, ())
      else
      some (false, ())
    else
    bif (eqI x0.2.1 2) then
      bif (eqI x0.2.1 2) then
        some (x0.2.2.2.2.2.1, ())
      else
      some (false, ())
    else
    bif (eqI x0.2.1 3) then
      bif (eqI x0.2.1 3) then
        some (x0.2.2.2.2.2.1, ())
      else
      some (false, ())
    else
    bif (eqI x0.2.1 7) then
      some (x0.2.2.2.2.2.1, ())
    else
    some (false, ())
  else
  some (false, ())
def sum5 : Sum := (⟨[.pair (.int .i64) (.pair (.int .i64) (.pair (.int .i64) (.pair (.int .i64) (.pair .str (.pair .bool (.pair .str (.pair (.int .i64) (.pair (.int .i64) .unit))))))))], [(.bool, false)], fun x => fn5 x.1⟩ : Sum)
noncomputable def env5 : Env := envOf Tryz.prog tt 5 [] [] []
theorem run5 (x0 : Int × Int × Int × Int × (List UInt8) × (Bool × (List UInt8) × (Int × Int × Unit))) : runF env5 5 [.pair (.int .i64) (.pair (.int .i64) (.pair (.int .i64) (.pair (.int .i64) (.pair .str (.pair .bool (.pair .str (.pair (.int .i64) (.pair (.int .i64) .unit))))))))] [(.bool, false)] (x0, ()) = fn5 x0 := by kernel_rfl
theorem env5_ok : EnvOk env5 := envOf_ok tok mixed noGor (sg := []) (fun _ h => absurd h List.not_mem_nil) (fn := Tryz.f5) (c := (Tryz.f5.body).getD .skip) (by kernel_rfl) (by kernel_rfl) (loopsOk_none (fun _ => rfl) (fun _ => rfl) _) rf_ok chk_ok
theorem sum5_ok : SumOk Tryz.prog 5 sum5 := sum_of_run env5_ok (by decide) fun x y h => (run5 (x.1)).trans h

/-! ### quillwort/quillwortlaw21.ContextOffers -/
def fn3 (x0 : Int × Int × Int × Int × (List UInt8) × (Bool × (List UInt8) × (Int × Int × Unit))) : Option (Bool × Unit) :=
  bif (eqI x0.1 2) then
    obind (fn5 (x0.1, (x0.2.1, (x0.2.2.1, (x0.2.2.2.1, (x0.2.2.2.2.1, (x0.2.2.2.2.2.1, (x0.2.2.2.2.2.2.1, (x0.2.2.2.2.2.2.2.1, (x0.2.2.2.2.2.2.2.2.1, ())))))))))) fun y0 =>
      some ((eqB y0.1 true), ())
  else
  bif (eqI x0.1 1) then
    bif x0.2.2.2.2.2.1 then
      bif (eqI x0.2.1 1) then
        obind (fn5 (x0.1, (x0.2.1, (x0.2.2.1, (x0.2.2.2.1, (x0.2.2.2.2.1, (x0.2.2.2.2.2.1, (x0.2.2.2.2.2.2.1, (x0.2.2.2.2.2.2.2.1, (x0.2.2.2.2.2.2.2.2.1, ())))))))))) fun y0 =>
          some ((eqB y0.1 true), ())
      else
      bif (eqI x0.2.1 2) then
        obind (fn5 (x0.1, (x0.2.1, (x0.2.2.1, (x0.2.2.2.1, (x0.2.2.2.2.1, (x0.2.2.2.2.2.1, (x0.2.2.2.2.2.2.1, (x0.2.2.2.2.2.2.2.1, (x0.2.2.2.2.2.2.2.2.1, ())))))))))) fun y0 =>
          some ((eqB y0.1 true), ())
      else
      bif (eqI x0.2.1 3) then
        obind (fn5 (x0.1, (x0.2.1, (x0.2.2.1, (x0.2.2.2.1, (x0.2.2.2.2.1, (x0.2.2.2.2.2.1, (x0.2.2.2.2.2.2.1, (x0.2.2.2.2.2.2.2.1, (x0.2.2.2.2.2.2.2.2.1, ())))))))))) fun y0 =>
          some ((eqB y0.1 true), ())
      else
      obind (fn5 (x0.1, (x0.2.1, (x0.2.2.1, (x0.2.2.2.1, (x0.2.2.2.2.1, (x0.2.2.2.2.2.1, (x0.2.2.2.2.2.2.1, (x0.2.2.2.2.2.2.2.1, (x0.2.2.2.2.2.2.2.2.1, ())))))))))) fun y0 =>
        some ((eqB y0.1 (eqI x0.2.1 7)), ())
    else
    obind (fn5 (x0.1, (x0.2.1, (x0.2.2.1, (x0.2.2.2.1, (x0.2.2.2.2.1, (x0.2.2.2.2.2.1, (x0.2.2.2.2.2.2.1, (x0.2.2.2.2.2.2.2.1, (x0.2.2.2.2.2.2.2.2.1, ())))))))))) fun y0 =>
      some ((eqB y0.1 false), ())
  else
  obind (fn5 (x0.1, (x0.2.1, (x0.2.2.1, (x0.2.2.2.1, (x0.2.2.2.2.1, (x0.2.2.2.2.2.1, (x0.2.2.2.2.2.2.1, (x0.2.2.2.2.2.2.2.1, (x0.2.2.2.2.2.2.2.2.1, ())))))))))) fun y0 =>
    some ((eqB y0.1 false), ())
def sum3 : Sum := (⟨[.pair (.int .i64) (.pair (.int .i64) (.pair (.int .i64) (.pair (.int .i64) (.pair .str (.pair .bool (.pair .str (.pair (.int .i64) (.pair (.int .i64) .unit))))))))], [(.bool, false)], fun x => fn3 x.1⟩ : Sum)
noncomputable def env3 : Env := envOf Tryz.prog tt 3 [(4, sumAwake), (5, sum5)] [] []
theorem run3 (x0 : Int × Int × Int × Int × (List UInt8) × (Bool × (List UInt8) × (Int × Int × Unit))) : runF env3 3 [.pair (.int .i64) (.pair (.int .i64) (.pair (.int .i64) (.pair (.int .i64) (.pair .str (.pair .bool (.pair .str (.pair (.int .i64) (.pair (.int .i64) .unit))))))))] [(.bool, false)] (x0, ()) = fn3 x0 := by kernel_rfl
theorem env3_ok : EnvOk env3 := envOf_ok tok mixed noGor (sg := [(4, sumAwake), (5, sum5)]) (List.forall_mem_cons.2 ⟨(sumAwake_ok), (List.forall_mem_cons.2 ⟨(sum5_ok), (fun _ h => absurd h List.not_mem_nil)⟩)⟩) (fn := Tryz.f3) (c := (Tryz.f3.body).getD .skip) (by kernel_rfl) (by kernel_rfl) (loopsOk_none (fun _ => rfl) (fun _ => rfl) _) rf_ok chk_ok
theorem sum3_ok : SumOk Tryz.prog 3 sum3 := sum_of_run env3_ok (by decide) fun x y h => (run3 (x.1)).trans h

end Go.Proofs.YtodjipegjpnacaaGreatDoor
