/-
  Sums by points; awake.
-/
import Derived.Test.YtodjipegjpnacaaGreatDoorE
namespace Go.Proofs.YtodjipegjpnacaaGreatDoor
open Go.RowKit
set_option maxRecDepth 100000
set_option linter.unusedVariables false
set_option linter.unusedSimpArgs false

noncomputable def envP (sg : FuncId → Option Sum) : Env := { P := Tryz.prog, T := tt, cl := true, kp := fun _ _ => none, sg := sg, lp := fun _ _ => none, bf := isChk }
theorem envP_ok {sg : FuncId → Option Sum} (h : ∀ g s, sg g = some s → SumOk Tryz.prog g s) : EnvOk (envP sg) := ⟨tok, mixed, noGor, h, fun f fn c _ _ => loopsOk_none (fun _ => rfl) (fun _ => rfl) c, rf_ok _ fun f fn c _ _ => loopsOk_none (fun _ => rfl) (fun _ => rfl) c, chk_ok, fun _ _ h => by cases h⟩
theorem sg_or {sg : FuncId → Option Sum} (h : ∀ g s, sg g = some s → SumOk Tryz.prog g s) {f : FuncId} {s0 : Sum} (h0 : SumOk Tryz.prog f s0) : ∀ g s, (bif Nat.beq g f then some s0 else sg g) = some s → SumOk Tryz.prog g s := fun g s e => by
  rw [cond_eq_ite] at e
  split at e
  · rename_i hg
    obtain rfl : g = f := Nat.eq_of_beq_eq_true hg
    cases e
    exact h0
  · exact h g s e

/-! ### quillwort/class.Of -/
theorem pt95_0 : runF (envP sg1) 95 [(.int .u8)] [((.int .i64), false)] ((108, ()) : (Int × Unit)) = some ((5, ()) : (Int × Unit)) := by kernel_rfl
theorem pt95_1 : runF (envP sg1) 95 [(.int .u8)] [((.int .i64), false)] ((115, ()) : (Int × Unit)) = some ((5, ()) : (Int × Unit)) := by kernel_rfl
theorem pt95_2 : runF (envP sg1) 95 [(.int .u8)] [((.int .i64), false)] ((32, ()) : (Int × Unit)) = some ((1, ()) : (Int × Unit)) := by kernel_rfl
theorem pt95_3 : runF (envP sg1) 95 [(.int .u8)] [((.int .i64), false)] ((34, ()) : (Int × Unit)) = some ((4, ()) : (Int × Unit)) := by kernel_rfl
theorem pt95_4 : runF (envP sg1) 95 [(.int .u8)] [((.int .i64), false)] ((97, ()) : (Int × Unit)) = some ((5, ()) : (Int × Unit)) := by kernel_rfl
theorem pt95_5 : runF (envP sg1) 95 [(.int .u8)] [((.int .i64), false)] ((98, ()) : (Int × Unit)) = some ((5, ()) : (Int × Unit)) := by kernel_rfl
def ptF95 (x : (Int × Unit)) : Option (Int × Unit) := bif decide (x = (108, ())) then some (5, ()) else bif decide (x = (115, ())) then some (5, ()) else bif decide (x = (32, ())) then some (1, ()) else bif decide (x = (34, ())) then some (4, ()) else bif decide (x = (97, ())) then some (5, ()) else bif decide (x = (98, ())) then some (5, ()) else none
theorem ptF95_run (x : (Int × Unit)) (y : (Int × Unit)) (h : ptF95 x = some y) : runF (envP sg1) 95 [(.int .u8)] [((.int .i64), false)] x = some y := by
  unfold ptF95 at h
  rw [cond_eq_ite] at h
  split at h
  · rename_i he
    have e := of_decide_eq_true he
    subst e
    cases h
    exact pt95_0
  rw [cond_eq_ite] at h
  split at h
  · rename_i he
    have e := of_decide_eq_true he
    subst e
    cases h
    exact pt95_1
  rw [cond_eq_ite] at h
  split at h
  · rename_i he
    have e := of_decide_eq_true he
    subst e
    cases h
    exact pt95_2
  rw [cond_eq_ite] at h
  split at h
  · rename_i he
    have e := of_decide_eq_true he
    subst e
    cases h
    exact pt95_3
  rw [cond_eq_ite] at h
  split at h
  · rename_i he
    have e := of_decide_eq_true he
    subst e
    cases h
    exact pt95_4
  rw [cond_eq_ite] at h
  split at h
  · rename_i he
    have e := of_decide_eq_true he
    subst e
    cases h
    exact pt95_5
  cases h
theorem sumP95_ok : SumOk Tryz.prog 95 ⟨[(.int .u8)], [((.int .i64), false)], ptF95⟩ := sum_of_run (envP_ok sg1_ok) (by decide) fun x y h => ptF95_run x y h
noncomputable def sgP95 (g : FuncId) : Option Sum := bif Nat.beq g 95 then some ⟨[(.int .u8)], [((.int .i64), false)], ptF95⟩ else sg1 g
theorem sgP95_ok : ∀ g s, sgP95 g = some s → SumOk Tryz.prog g s := sg_or sg1_ok sumP95_ok

/-! ### quillwort/rules.word -/
theorem pt128_0 : runF (envP sgP95) 128 [.str] [((.int .u8), false)] (([108, 115], ()) : ((List UInt8) × Unit)) = some ((120, ()) : (Int × Unit)) := by kernel_rfl
theorem pt128_1 : runF (envP sgP95) 128 [.str] [((.int .u8), false)] (([95], ()) : ((List UInt8) × Unit)) = some ((120, ()) : (Int × Unit)) := by kernel_rfl
def ptF128 (x : ((List UInt8) × Unit)) : Option (Int × Unit) := bif decide (x = ([108, 115], ())) then some (120, ()) else bif decide (x = ([95], ())) then some (120, ()) else none
theorem ptF128_run (x : ((List UInt8) × Unit)) (y : (Int × Unit)) (h : ptF128 x = some y) : runF (envP sgP95) 128 [.str] [((.int .u8), false)] x = some y := by
  unfold ptF128 at h
  rw [cond_eq_ite] at h
  split at h
  · rename_i he
    have e := of_decide_eq_true he
    subst e
    cases h
    exact pt128_0
  rw [cond_eq_ite] at h
  split at h
  · rename_i he
    have e := of_decide_eq_true he
    subst e
    cases h
    exact pt128_1
  cases h
theorem sumP128_ok : SumOk Tryz.prog 128 ⟨[.str], [((.int .u8), false)], ptF128⟩ := sum_of_run (envP_ok sgP95_ok) (by decide) fun x y h => ptF128_run x y h
noncomputable def sgP128 (g : FuncId) : Option Sum := bif Nat.beq g 128 then some ⟨[.str], [((.int .u8), false)], ptF128⟩ else sgP95 g
theorem sgP128_ok : ∀ g s, sgP128 g = some s → SumOk Tryz.prog g s := sg_or sgP95_ok sumP128_ok

/-! ### quillwort/modes.Run -/
theorem pt12_0 : runF (envP sgP128) 12 [.str] [((.list (.pair (.int .i64) (.pair (.int .i64) .unit))), false), (.bool, false)] (([108, 115], ()) : ((List UInt8) × Unit)) = some (([(0, (0, ()))], (false, ())) : ((List (Int × (Int × Unit))) × Bool × Unit)) := by kernel_rfl
theorem pt12_1 : runF (envP sgP128) 12 [.str] [((.list (.pair (.int .i64) (.pair (.int .i64) .unit))), false), (.bool, false)] (([34, 97, 32, 98], ()) : ((List UInt8) × Unit)) = some (([(0, (0, ())), (5, (0, ()))], (false, ())) : ((List (Int × (Int × Unit))) × Bool × Unit)) := by kernel_rfl
def ptF12 (x : ((List UInt8) × Unit)) : Option ((List (Int × (Int × Unit))) × Bool × Unit) := bif decide (x = ([108, 115], ())) then some ([(0, (0, ()))], (false, ())) else bif decide (x = ([34, 97, 32, 98], ())) then some ([(0, (0, ())), (5, (0, ()))], (false, ())) else none
theorem ptF12_run (x : ((List UInt8) × Unit)) (y : ((List (Int × (Int × Unit))) × Bool × Unit)) (h : ptF12 x = some y) : runF (envP sgP128) 12 [.str] [((.list (.pair (.int .i64) (.pair (.int .i64) .unit))), false), (.bool, false)] x = some y := by
  unfold ptF12 at h
  rw [cond_eq_ite] at h
  split at h
  · rename_i he
    have e := of_decide_eq_true he
    subst e
    cases h
    exact pt12_0
  rw [cond_eq_ite] at h
  split at h
  · rename_i he
    have e := of_decide_eq_true he
    subst e
    cases h
    exact pt12_1
  cases h
theorem sumP12_ok : SumOk Tryz.prog 12 ⟨[.str], [((.list (.pair (.int .i64) (.pair (.int .i64) .unit))), false), (.bool, false)], ptF12⟩ := sum_of_run (envP_ok sgP128_ok) (by decide) fun x y h => ptF12_run x y h
noncomputable def sgP12 (g : FuncId) : Option Sum := bif Nat.beq g 12 then some ⟨[.str], [((.list (.pair (.int .i64) (.pair (.int .i64) .unit))), false), (.bool, false)], ptF12⟩ else sgP128 g
theorem sgP12_ok : ∀ g s, sgP12 g = some s → SumOk Tryz.prog g s := sg_or sgP128_ok sumP12_ok

/-! ### quillwort/parts.Of -/
theorem pt31_0 : runF (envP sgP12) 31 [.str] [((.list (.pair (.int .i64) (.pair (.int .i64) (.pair (.int .i64) (.pair (.int .i64) (.pair .bool .unit)))))), false)] (([34, 97, 32, 98], ()) : ((List UInt8) × Unit)) = some (([(5, (0, (4, ((-1), (true, ())))))], ()) : ((List (Int × (Int × (Int × (Int × (Bool × Unit)))))) × Unit)) := by kernel_rfl
theorem pt31_1 : runF (envP sgP12) 31 [.str] [((.list (.pair (.int .i64) (.pair (.int .i64) (.pair (.int .i64) (.pair (.int .i64) (.pair .bool .unit)))))), false)] (([108, 115], ()) : ((List UInt8) × Unit)) = some (([], ()) : ((List (Int × (Int × (Int × (Int × (Bool × Unit)))))) × Unit)) := by kernel_rfl
def ptF31 (x : ((List UInt8) × Unit)) : Option ((List (Int × (Int × (Int × (Int × (Bool × Unit)))))) × Unit) := bif decide (x = ([34, 97, 32, 98], ())) then some ([(5, (0, (4, ((-1), (true, ())))))], ()) else bif decide (x = ([108, 115], ())) then some ([], ()) else none
theorem ptF31_run (x : ((List UInt8) × Unit)) (y : ((List (Int × (Int × (Int × (Int × (Bool × Unit)))))) × Unit)) (h : ptF31 x = some y) : runF (envP sgP12) 31 [.str] [((.list (.pair (.int .i64) (.pair (.int .i64) (.pair (.int .i64) (.pair (.int .i64) (.pair .bool .unit)))))), false)] x = some y := by
  unfold ptF31 at h
  rw [cond_eq_ite] at h
  split at h
  · rename_i he
    have e := of_decide_eq_true he
    subst e
    cases h
    exact pt31_0
  rw [cond_eq_ite] at h
  split at h
  · rename_i he
    have e := of_decide_eq_true he
    subst e
    cases h
    exact pt31_1
  cases h
theorem sumP31_ok : SumOk Tryz.prog 31 ⟨[.str], [((.list (.pair (.int .i64) (.pair (.int .i64) (.pair (.int .i64) (.pair (.int .i64) (.pair .bool .unit)))))), false)], ptF31⟩ := sum_of_run (envP_ok sgP12_ok) (by decide) fun x y h => ptF31_run x y h
noncomputable def sgP31 (g : FuncId) : Option Sum := bif Nat.beq g 31 then some ⟨[.str], [((.list (.pair (.int .i64) (.pair (.int .i64) (.pair (.int .i64) (.pair (.int .i64) (.pair .bool .unit)))))), false)], ptF31⟩ else sgP12 g
theorem sgP31_ok : ∀ g s, sgP31 g = some s → SumOk Tryz.prog g s := sg_or sgP12_ok sumP31_ok

/-! ### quillwort/literal.Value -/
theorem pt20_0 : runF (envP sgP31) 20 [.str] [(.str, false), (.bool, false)] (([34, 97, 32, 98], ()) : ((List UInt8) × Unit)) = some (([97, 32, 98], (true, ())) : ((List UInt8) × Bool × Unit)) := by kernel_rfl
theorem pt20_1 : runF (envP sgP31) 20 [.str] [(.str, false), (.bool, false)] (([108, 115], ()) : ((List UInt8) × Unit)) = some (([108, 115], (true, ())) : ((List UInt8) × Bool × Unit)) := by kernel_rfl
def ptF20 (x : ((List UInt8) × Unit)) : Option ((List UInt8) × Bool × Unit) := bif decide (x = ([34, 97, 32, 98], ())) then some ([97, 32, 98], (true, ())) else bif decide (x = ([108, 115], ())) then some ([108, 115], (true, ())) else none
theorem ptF20_run (x : ((List UInt8) × Unit)) (y : ((List UInt8) × Bool × Unit)) (h : ptF20 x = some y) : runF (envP sgP31) 20 [.str] [(.str, false), (.bool, false)] x = some y := by
  unfold ptF20 at h
  rw [cond_eq_ite] at h
  split at h
  · rename_i he
    have e := of_decide_eq_true he
    subst e
    cases h
    exact pt20_0
  rw [cond_eq_ite] at h
  split at h
  · rename_i he
    have e := of_decide_eq_true he
    subst e
    cases h
    exact pt20_1
  cases h
theorem sumP20_ok : SumOk Tryz.prog 20 ⟨[.str], [(.str, false), (.bool, false)], ptF20⟩ := sum_of_run (envP_ok sgP31_ok) (by decide) fun x y h => ptF20_run x y h
noncomputable def sgP20 (g : FuncId) : Option Sum := bif Nat.beq g 20 then some ⟨[.str], [(.str, false), (.bool, false)], ptF20⟩ else sgP31 g
theorem sgP20_ok : ∀ g s, sgP20 g = some s → SumOk Tryz.prog g s := sg_or sgP31_ok sumP20_ok

/-! ### quillwort/context.substitutions -/
theorem pt13_0 : runF (envP sgP20) 13 [(.list (.pair (.int .i64) (.pair (.int .i64) .unit)))] [((.int .i64), false)] (([(0, (0, ())), (5, (0, ()))], ()) : ((List (Int × (Int × Unit))) × Unit)) = some ((0, ()) : (Int × Unit)) := by kernel_rfl
def ptF13 (x : ((List (Int × (Int × Unit))) × Unit)) : Option (Int × Unit) := bif decide (x = ([(0, (0, ())), (5, (0, ()))], ())) then some (0, ()) else none
theorem ptF13_run (x : ((List (Int × (Int × Unit))) × Unit)) (y : (Int × Unit)) (h : ptF13 x = some y) : runF (envP sgP20) 13 [(.list (.pair (.int .i64) (.pair (.int .i64) .unit)))] [((.int .i64), false)] x = some y := by
  unfold ptF13 at h
  rw [cond_eq_ite] at h
  split at h
  · rename_i he
    have e := of_decide_eq_true he
    subst e
    cases h
    exact pt13_0
  cases h
theorem sumP13_ok : SumOk Tryz.prog 13 ⟨[(.list (.pair (.int .i64) (.pair (.int .i64) .unit)))], [((.int .i64), false)], ptF13⟩ := sum_of_run (envP_ok sgP20_ok) (by decide) fun x y h => ptF13_run x y h
noncomputable def sgP13 (g : FuncId) : Option Sum := bif Nat.beq g 13 then some ⟨[(.list (.pair (.int .i64) (.pair (.int .i64) .unit)))], [((.int .i64), false)], ptF13⟩ else sgP20 g
theorem sgP13_ok : ∀ g s, sgP13 g = some s → SumOk Tryz.prog g s := sg_or sgP20_ok sumP13_ok

/-! ### quillwort/context.decides -/
theorem pt14_0 : runF (envP sgP13) 14 [(.list (.pair (.int .i64) (.pair (.int .i64) .unit)))] [((.pair (.int .i64) (.pair (.int .i64) .unit)), false), (.bool, false)] (([(0, (0, ())), (5, (0, ()))], ()) : ((List (Int × (Int × Unit))) × Unit)) = some (((0, (0, ())), (false, ())) : ((Int × (Int × Unit)) × Bool × Unit)) := by kernel_rfl
def ptF14 (x : ((List (Int × (Int × Unit))) × Unit)) : Option ((Int × (Int × Unit)) × Bool × Unit) := bif decide (x = ([(0, (0, ())), (5, (0, ()))], ())) then some ((0, (0, ())), (false, ())) else none
theorem ptF14_run (x : ((List (Int × (Int × Unit))) × Unit)) (y : ((Int × (Int × Unit)) × Bool × Unit)) (h : ptF14 x = some y) : runF (envP sgP13) 14 [(.list (.pair (.int .i64) (.pair (.int .i64) .unit)))] [((.pair (.int .i64) (.pair (.int .i64) .unit)), false), (.bool, false)] x = some y := by
  unfold ptF14 at h
  rw [cond_eq_ite] at h
  split at h
  · rename_i he
    have e := of_decide_eq_true he
    subst e
    cases h
    exact pt14_0
  cases h
theorem sumP14_ok : SumOk Tryz.prog 14 ⟨[(.list (.pair (.int .i64) (.pair (.int .i64) .unit)))], [((.pair (.int .i64) (.pair (.int .i64) .unit)), false), (.bool, false)], ptF14⟩ := sum_of_run (envP_ok sgP13_ok) (by decide) fun x y h => ptF14_run x y h
noncomputable def sgP14 (g : FuncId) : Option Sum := bif Nat.beq g 14 then some ⟨[(.list (.pair (.int .i64) (.pair (.int .i64) .unit)))], [((.pair (.int .i64) (.pair (.int .i64) .unit)), false), (.bool, false)], ptF14⟩ else sgP13 g
theorem sgP14_ok : ∀ g s, sgP14 g = some s → SumOk Tryz.prog g s := sg_or sgP13_ok sumP14_ok

/-! ### quillwort/context.dollar -/
theorem pt17_0 : runF (envP sgP14) 17 [.str] [(.str, false)] (([34, 97, 32, 98], ()) : ((List UInt8) × Unit)) = some (([], ()) : ((List UInt8) × Unit)) := by kernel_rfl
def ptF17 (x : ((List UInt8) × Unit)) : Option ((List UInt8) × Unit) := bif decide (x = ([34, 97, 32, 98], ())) then some ([], ()) else none
theorem ptF17_run (x : ((List UInt8) × Unit)) (y : ((List UInt8) × Unit)) (h : ptF17 x = some y) : runF (envP sgP14) 17 [.str] [(.str, false)] x = some y := by
  unfold ptF17 at h
  rw [cond_eq_ite] at h
  split at h
  · rename_i he
    have e := of_decide_eq_true he
    subst e
    cases h
    exact pt17_0
  cases h
theorem sumP17_ok : SumOk Tryz.prog 17 ⟨[.str], [(.str, false)], ptF17⟩ := sum_of_run (envP_ok sgP14_ok) (by decide) fun x y h => ptF17_run x y h
noncomputable def sgP17 (g : FuncId) : Option Sum := bif Nat.beq g 17 then some ⟨[.str], [(.str, false)], ptF17⟩ else sgP14 g
theorem sgP17_ok : ∀ g s, sgP17 g = some s → SumOk Tryz.prog g s := sg_or sgP14_ok sumP17_ok

/-! ### quillwort/tree.Kids -/
theorem pt63_0 : runF (envP sgP17) 63 [(.list (.pair (.int .i64) (.pair (.int .i64) (.pair (.int .i64) (.pair (.int .i64) .unit))))), (.int .i64)] [((.list (.int .i64)), false)] (([(1, (0, (2, ((-1), ())))), (2, (0, (2, (0, ())))), (3, (0, (2, (1, ())))), (4, (0, (2, (2, ())))), (5, (0, (2, (3, ())))), (7, (0, (1, (4, ())))), (7, (1, (2, (4, ()))))], (4, ())) : ((List (Int × (Int × (Int × (Int × Unit))))) × Int × Unit)) = some (([5, 6], ()) : ((List Int) × Unit)) := by kernel_rfl
def ptF63 (x : ((List (Int × (Int × (Int × (Int × Unit))))) × Int × Unit)) : Option ((List Int) × Unit) := bif decide (x = ([(1, (0, (2, ((-1), ())))), (2, (0, (2, (0, ())))), (3, (0, (2, (1, ())))), (4, (0, (2, (2, ())))), (5, (0, (2, (3, ())))), (7, (0, (1, (4, ())))), (7, (1, (2, (4, ()))))], (4, ()))) then some ([5, 6], ()) else none
theorem ptF63_run (x : ((List (Int × (Int × (Int × (Int × Unit))))) × Int × Unit)) (y : ((List Int) × Unit)) (h : ptF63 x = some y) : runF (envP sgP17) 63 [(.list (.pair (.int .i64) (.pair (.int .i64) (.pair (.int .i64) (.pair (.int .i64) .unit))))), (.int .i64)] [((.list (.int .i64)), false)] x = some y := by
  unfold ptF63 at h
  rw [cond_eq_ite] at h
  split at h
  · rename_i he
    have e := of_decide_eq_true he
    subst e
    cases h
    exact pt63_0
  cases h
theorem sumP63_ok : SumOk Tryz.prog 63 ⟨[(.list (.pair (.int .i64) (.pair (.int .i64) (.pair (.int .i64) (.pair (.int .i64) .unit))))), (.int .i64)], [((.list (.int .i64)), false)], ptF63⟩ := sum_of_run (envP_ok sgP17_ok) (by decide) fun x y h => ptF63_run x y h
noncomputable def sgP63 (g : FuncId) : Option Sum := bif Nat.beq g 63 then some ⟨[(.list (.pair (.int .i64) (.pair (.int .i64) (.pair (.int .i64) (.pair (.int .i64) .unit))))), (.int .i64)], [((.list (.int .i64)), false)], ptF63⟩ else sgP17 g
theorem sgP63_ok : ∀ g s, sgP63 g = some s → SumOk Tryz.prog g s := sg_or sgP17_ok sumP63_ok

/-! ### quillwort/context.ahead -/
theorem pt39_0 : runF (envP sgP63) 39 [(.list (.pair (.int .i64) (.pair (.int .i64) (.pair (.int .i64) (.pair (.int .i64) .unit))))), (.int .i64), (.int .i64)] [((.int .i64), false), ((.int .i64), false)] (([(1, (0, (2, ((-1), ())))), (2, (0, (2, (0, ())))), (3, (0, (2, (1, ())))), (4, (0, (2, (2, ())))), (5, (0, (2, (3, ())))), (7, (0, (1, (4, ())))), (7, (1, (2, (4, ()))))], (4, (6, ()))) : ((List (Int × (Int × (Int × (Int × Unit))))) × Int × Int × Unit)) = some ((1, (5, ())) : (Int × Int × Unit)) := by kernel_rfl
def ptF39 (x : ((List (Int × (Int × (Int × (Int × Unit))))) × Int × Int × Unit)) : Option (Int × Int × Unit) := bif decide (x = ([(1, (0, (2, ((-1), ())))), (2, (0, (2, (0, ())))), (3, (0, (2, (1, ())))), (4, (0, (2, (2, ())))), (5, (0, (2, (3, ())))), (7, (0, (1, (4, ())))), (7, (1, (2, (4, ()))))], (4, (6, ())))) then some (1, (5, ())) else none
theorem ptF39_run (x : ((List (Int × (Int × (Int × (Int × Unit))))) × Int × Int × Unit)) (y : (Int × Int × Unit)) (h : ptF39 x = some y) : runF (envP sgP63) 39 [(.list (.pair (.int .i64) (.pair (.int .i64) (.pair (.int .i64) (.pair (.int .i64) .unit))))), (.int .i64), (.int .i64)] [((.int .i64), false), ((.int .i64), false)] x = some y := by
  unfold ptF39 at h
  rw [cond_eq_ite] at h
  split at h
  · rename_i he
    have e := of_decide_eq_true he
    subst e
    cases h
    exact pt39_0
  cases h
theorem sumP39_ok : SumOk Tryz.prog 39 ⟨[(.list (.pair (.int .i64) (.pair (.int .i64) (.pair (.int .i64) (.pair (.int .i64) .unit))))), (.int .i64), (.int .i64)], [((.int .i64), false), ((.int .i64), false)], ptF39⟩ := sum_of_run (envP_ok sgP63_ok) (by decide) fun x y h => ptF39_run x y h
noncomputable def sgP39 (g : FuncId) : Option Sum := bif Nat.beq g 39 then some ⟨[(.list (.pair (.int .i64) (.pair (.int .i64) (.pair (.int .i64) (.pair (.int .i64) .unit))))), (.int .i64), (.int .i64)], [((.int .i64), false), ((.int .i64), false)], ptF39⟩ else sgP63 g
theorem sgP39_ok : ∀ g s, sgP39 g = some s → SumOk Tryz.prog g s := sg_or sgP63_ok sumP39_ok

/-! ### quillwort/modes.closer -/
theorem pt115_0 : runF (envP sgP39) 115 [(.int .i64)] [(.str, false)] ((0, ()) : (Int × Unit)) = some (([], ()) : ((List UInt8) × Unit)) := by kernel_rfl
theorem pt115_1 : runF (envP sgP39) 115 [(.int .i64)] [(.str, false)] ((5, ()) : (Int × Unit)) = some (([34], ()) : ((List UInt8) × Unit)) := by kernel_rfl
def ptF115 (x : (Int × Unit)) : Option ((List UInt8) × Unit) := bif decide (x = (0, ())) then some ([], ()) else bif decide (x = (5, ())) then some ([34], ()) else none
theorem ptF115_run (x : (Int × Unit)) (y : ((List UInt8) × Unit)) (h : ptF115 x = some y) : runF (envP sgP39) 115 [(.int .i64)] [(.str, false)] x = some y := by
  unfold ptF115 at h
  rw [cond_eq_ite] at h
  split at h
  · rename_i he
    have e := of_decide_eq_true he
    subst e
    cases h
    exact pt115_0
  rw [cond_eq_ite] at h
  split at h
  · rename_i he
    have e := of_decide_eq_true he
    subst e
    cases h
    exact pt115_1
  cases h
theorem sumP115_ok : SumOk Tryz.prog 115 ⟨[(.int .i64)], [(.str, false)], ptF115⟩ := sum_of_run (envP_ok sgP39_ok) (by decide) fun x y h => ptF115_run x y h
noncomputable def sgP115 (g : FuncId) : Option Sum := bif Nat.beq g 115 then some ⟨[(.int .i64)], [(.str, false)], ptF115⟩ else sgP39 g
theorem sgP115_ok : ∀ g s, sgP115 g = some s → SumOk Tryz.prog g s := sg_or sgP39_ok sumP115_ok

/-! ### quillwort/modes.End -/
theorem pt100_0 : runF (envP sgP115) 100 [.str, (.int .i64)] [((.int .i64), false)] (([108, 115, 32, 34, 97, 32, 98], (0, ())) : ((List UInt8) × Int × Unit)) = some ((2, ()) : (Int × Unit)) := by kernel_rfl
theorem pt100_1 : runF (envP sgP115) 100 [.str, (.int .i64)] [((.int .i64), false)] (([108, 115, 32, 34, 97, 32, 98], (3, ())) : ((List UInt8) × Int × Unit)) = some ((7, ()) : (Int × Unit)) := by kernel_rfl
def ptF100 (x : ((List UInt8) × Int × Unit)) : Option (Int × Unit) := bif decide (x = ([108, 115, 32, 34, 97, 32, 98], (0, ()))) then some (2, ()) else bif decide (x = ([108, 115, 32, 34, 97, 32, 98], (3, ()))) then some (7, ()) else none
theorem ptF100_run (x : ((List UInt8) × Int × Unit)) (y : (Int × Unit)) (h : ptF100 x = some y) : runF (envP sgP115) 100 [.str, (.int .i64)] [((.int .i64), false)] x = some y := by
  unfold ptF100 at h
  rw [cond_eq_ite] at h
  split at h
  · rename_i he
    have e := of_decide_eq_true he
    subst e
    cases h
    exact pt100_0
  rw [cond_eq_ite] at h
  split at h
  · rename_i he
    have e := of_decide_eq_true he
    subst e
    cases h
    exact pt100_1
  cases h
theorem sumP100_ok : SumOk Tryz.prog 100 ⟨[.str, (.int .i64)], [((.int .i64), false)], ptF100⟩ := sum_of_run (envP_ok sgP115_ok) (by decide) fun x y h => ptF100_run x y h
noncomputable def sgP100 (g : FuncId) : Option Sum := bif Nat.beq g 100 then some ⟨[.str, (.int .i64)], [((.int .i64), false)], ptF100⟩ else sgP115 g
theorem sgP100_ok : ∀ g s, sgP100 g = some s → SumOk Tryz.prog g s := sg_or sgP115_ok sumP100_ok

/-! ### strings.HasPrefix -/
theorem pt111_0 : runF (envP sgP100) 111 [.str, .str] [(.bool, false)] (([108, 115, 32, 34, 97, 32, 98], ([92, 10], ())) : ((List UInt8) × (List UInt8) × Unit)) = some ((false, ()) : (Bool × Unit)) := by kernel_rfl
theorem pt111_1 : runF (envP sgP100) 111 [.str, .str] [(.bool, false)] (([34, 97, 32, 98], ([92, 10], ())) : ((List UInt8) × (List UInt8) × Unit)) = some ((false, ()) : (Bool × Unit)) := by kernel_rfl
def ptF111 (x : ((List UInt8) × (List UInt8) × Unit)) : Option (Bool × Unit) := bif decide (x = ([108, 115, 32, 34, 97, 32, 98], ([92, 10], ()))) then some (false, ()) else bif decide (x = ([34, 97, 32, 98], ([92, 10], ()))) then some (false, ()) else none
theorem ptF111_run (x : ((List UInt8) × (List UInt8) × Unit)) (y : (Bool × Unit)) (h : ptF111 x = some y) : runF (envP sgP100) 111 [.str, .str] [(.bool, false)] x = some y := by
  unfold ptF111 at h
  rw [cond_eq_ite] at h
  split at h
  · rename_i he
    have e := of_decide_eq_true he
    subst e
    cases h
    exact pt111_0
  rw [cond_eq_ite] at h
  split at h
  · rename_i he
    have e := of_decide_eq_true he
    subst e
    cases h
    exact pt111_1
  cases h
theorem sumP111_ok : SumOk Tryz.prog 111 ⟨[.str, .str], [(.bool, false)], ptF111⟩ := sum_of_run (envP_ok sgP100_ok) (by decide) fun x y h => ptF111_run x y h
noncomputable def sgP111 (g : FuncId) : Option Sum := bif Nat.beq g 111 then some ⟨[.str, .str], [(.bool, false)], ptF111⟩ else sgP100 g
theorem sgP111_ok : ∀ g s, sgP111 g = some s → SumOk Tryz.prog g s := sg_or sgP100_ok sumP111_ok

/-! ### quillwort/token.plain -/
theorem pt72_0 : runF (envP sgP111) 72 [.str, (.int .i64)] [((.pair (.int .i64) (.pair (.int .i64) (.pair (.int .i64) (.pair .bool .unit)))), false)] (([108, 115, 32, 34, 97, 32, 98], (0, ())) : ((List UInt8) × Int × Unit)) = some (((6, (0, (2, (false, ())))), ()) : ((Int × (Int × (Int × (Bool × Unit)))) × Unit)) := by kernel_rfl
theorem pt72_1 : runF (envP sgP111) 72 [.str, (.int .i64)] [((.pair (.int .i64) (.pair (.int .i64) (.pair (.int .i64) (.pair .bool .unit)))), false)] (([108, 115, 32, 34, 97, 32, 98], (2, ())) : ((List UInt8) × Int × Unit)) = some (((1, (2, (3, (false, ())))), ()) : ((Int × (Int × (Int × (Bool × Unit)))) × Unit)) := by kernel_rfl
theorem pt72_2 : runF (envP sgP111) 72 [.str, (.int .i64)] [((.pair (.int .i64) (.pair (.int .i64) (.pair (.int .i64) (.pair .bool .unit)))), false)] (([108, 115, 32, 34, 97, 32, 98], (3, ())) : ((List UInt8) × Int × Unit)) = some (((6, (3, (7, (true, ())))), ()) : ((Int × (Int × (Int × (Bool × Unit)))) × Unit)) := by kernel_rfl
def ptF72 (x : ((List UInt8) × Int × Unit)) : Option ((Int × (Int × (Int × (Bool × Unit)))) × Unit) := bif decide (x = ([108, 115, 32, 34, 97, 32, 98], (0, ()))) then some ((6, (0, (2, (false, ())))), ()) else bif decide (x = ([108, 115, 32, 34, 97, 32, 98], (2, ()))) then some ((1, (2, (3, (false, ())))), ()) else bif decide (x = ([108, 115, 32, 34, 97, 32, 98], (3, ()))) then some ((6, (3, (7, (true, ())))), ()) else none
theorem ptF72_run (x : ((List UInt8) × Int × Unit)) (y : ((Int × (Int × (Int × (Bool × Unit)))) × Unit)) (h : ptF72 x = some y) : runF (envP sgP111) 72 [.str, (.int .i64)] [((.pair (.int .i64) (.pair (.int .i64) (.pair (.int .i64) (.pair .bool .unit)))), false)] x = some y := by
  unfold ptF72 at h
  rw [cond_eq_ite] at h
  split at h
  · rename_i he
    have e := of_decide_eq_true he
    subst e
    cases h
    exact pt72_0
  rw [cond_eq_ite] at h
  split at h
  · rename_i he
    have e := of_decide_eq_true he
    subst e
    cases h
    exact pt72_1
  rw [cond_eq_ite] at h
  split at h
  · rename_i he
    have e := of_decide_eq_true he
    subst e
    cases h
    exact pt72_2
  cases h
theorem sumP72_ok : SumOk Tryz.prog 72 ⟨[.str, (.int .i64)], [((.pair (.int .i64) (.pair (.int .i64) (.pair (.int .i64) (.pair .bool .unit)))), false)], ptF72⟩ := sum_of_run (envP_ok sgP111_ok) (by decide) fun x y h => ptF72_run x y h
noncomputable def sgP72 (g : FuncId) : Option Sum := bif Nat.beq g 72 then some ⟨[.str, (.int .i64)], [((.pair (.int .i64) (.pair (.int .i64) (.pair (.int .i64) (.pair .bool .unit)))), false)], ptF72⟩ else sgP111 g
theorem sgP72_ok : ∀ g s, sgP72 g = some s → SumOk Tryz.prog g s := sg_or sgP111_ok sumP72_ok

theorem awake_run : runF (envP sgP72) 4 [] [(.bool, false)] () = some (true, ()) := by kernel_rfl
def sumAwake : Sum := ⟨[], [(.bool, false)], fun _ => some (true, ())⟩
theorem sumAwake_ok : SumOk Tryz.prog 4 sumAwake := sum_of_run (envP_ok sgP72_ok) (by decide) fun x y h => by
  cases h
  exact awake_run
end Go.Proofs.YtodjipegjpnacaaGreatDoor
