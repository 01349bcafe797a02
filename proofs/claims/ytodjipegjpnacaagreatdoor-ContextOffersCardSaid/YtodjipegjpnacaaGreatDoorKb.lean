/-
  ContextOffers: the law over what the functions compute.
-/
import Derived.Test.YtodjipegjpnacaaGreatDoorFa
namespace Go.Proofs.YtodjipegjpnacaaGreatDoor
open Go.RowKit
set_option linter.unusedVariables false
set_option maxRecDepth 100000

theorem law3 (x0 : Int × Int × Int × Int × (List UInt8) × (Bool × (List UInt8) × (Int × Int × Unit))) (h : wfD (.pair (.int .i64) (.pair (.int .i64) (.pair (.int .i64) (.pair (.int .i64) (.pair .str (.pair .bool (.pair .str (.pair (.int .i64) (.pair (.int .i64) .unit))))))))) x0) : fn3 x0 = some (true, ()) := by
  obtain ⟨a, b, c, d, s, p, t, m, n, u⟩ := x0
  unfold fn3 fn5 obind
  simp only
  cases h1 : eqI a 2 <;> cases h2 : eqI a 1 <;> cases h3 : eqI b 1 <;> cases h4 : eqI b 2 <;> cases h5 : eqI b 3 <;> cases h6 : eqI b 7 <;> cases p <;> simp_all [eqB]
end Go.Proofs.YtodjipegjpnacaaGreatDoor
