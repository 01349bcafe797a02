/-
  Sums by points; awake.
-/
import Derived.Test.YtnmaceljkegenaaDoorEb
namespace Go.Proofs.YtnmaceljkegenaaDoor
open Go.RowKit
set_option maxRecDepth 100000
set_option linter.unusedVariables false
set_option linter.unusedSimpArgs false

noncomputable def envP (sg : FuncId → Option Sum) : Env := { P := Tryd.prog, T := tt, cl := true, kp := fun _ _ => none, sg := sg, lp := fun _ _ => none, bf := isChk }
theorem envP_ok {sg : FuncId → Option Sum} (h : ∀ g s, sg g = some s → SumOk Tryd.prog g s) : EnvOk (envP sg) := ⟨tok, mixed, noGor, h, fun f fn c _ _ => loopsOk_none (fun _ => rfl) (fun _ => rfl) c, rf_ok _ fun f fn c _ _ => loopsOk_none (fun _ => rfl) (fun _ => rfl) c, chk_ok, fun _ _ h => by cases h⟩
theorem sg_or {sg : FuncId → Option Sum} (h : ∀ g s, sg g = some s → SumOk Tryd.prog g s) {f : FuncId} {s0 : Sum} (h0 : SumOk Tryd.prog f s0) : ∀ g s, (bif Nat.beq g f then some s0 else sg g) = some s → SumOk Tryd.prog g s := fun g s e => by
  rw [cond_eq_ite] at e
  split at e
  · rename_i hg
    obtain rfl : g = f := Nat.eq_of_beq_eq_true hg
    cases e
    exact h0
  · exact h g s e

/-! ### internal/stringslite.IndexByte -/
theorem pt25_0 : runF (envP sg2) 25 [.str, (.int .u8)] [((.int .i64), false)] (([63, 80, 76, 65, 73, 83, 88, 87, 82, 66, 85, 70, 72, 79, 67, 84, 78, 69, 77], (80, ())) : ((List UInt8) × Int × Unit)) = some ((1, ()) : (Int × Unit)) := by kernel_rfl
theorem pt25_1 : runF (envP sg2) 25 [.str, (.int .u8)] [((.int .i64), false)] (([63, 80, 76, 65, 73, 83, 88, 87, 82, 66, 85, 70, 72, 79, 67, 84, 78, 69, 77], (87, ())) : ((List UInt8) × Int × Unit)) = some ((7, ()) : (Int × Unit)) := by kernel_rfl
def ptF25 (x : ((List UInt8) × Int × Unit)) : Option (Int × Unit) := bif decide (x = ([63, 80, 76, 65, 73, 83, 88, 87, 82, 66, 85, 70, 72, 79, 67, 84, 78, 69, 77], (80, ()))) then some (1, ()) else bif decide (x = ([63, 80, 76, 65, 73, 83, 88, 87, 82, 66, 85, 70, 72, 79, 67, 84, 78, 69, 77], (87, ()))) then some (7, ()) else none
theorem ptF25_run (x : ((List UInt8) × Int × Unit)) (y : (Int × Unit)) (h : ptF25 x = some y) : runF (envP sg2) 25 [.str, (.int .u8)] [((.int .i64), false)] x = some y := by
  unfold ptF25 at h
  rw [cond_eq_ite] at h
  split at h
  · rename_i he
    have e := of_decide_eq_true he
    subst e
    cases h
    exact pt25_0
  rw [cond_eq_ite] at h
  split at h
  · rename_i he
    have e := of_decide_eq_true he
    subst e
    cases h
    exact pt25_1
  cases h
theorem sumP25_ok : SumOk Tryd.prog 25 ⟨[.str, (.int .u8)], [((.int .i64), false)], ptF25⟩ := sum_of_run (envP_ok sg2_ok) (by decide) fun x y h => ptF25_run x y h
noncomputable def sgP25 (g : FuncId) : Option Sum := bif Nat.beq g 25 then some ⟨[.str, (.int .u8)], [((.int .i64), false)], ptF25⟩ else sg2 g
theorem sgP25_ok : ∀ g s, sgP25 g = some s → SumOk Tryd.prog g s := sg_or sg2_ok sumP25_ok

/-! ### strings.IndexByte -/
theorem pt21_0 : runF (envP sgP25) 21 [.str, (.int .u8)] [((.int .i64), false)] (([63, 80, 76, 65, 73, 83, 88, 87, 82, 66, 85, 70, 72, 79, 67, 84, 78, 69, 77], (80, ())) : ((List UInt8) × Int × Unit)) = some ((1, ()) : (Int × Unit)) := by kernel_rfl
theorem pt21_1 : runF (envP sgP25) 21 [.str, (.int .u8)] [((.int .i64), false)] (([63, 80, 76, 65, 73, 83, 88, 87, 82, 66, 85, 70, 72, 79, 67, 84, 78, 69, 77], (87, ())) : ((List UInt8) × Int × Unit)) = some ((7, ()) : (Int × Unit)) := by kernel_rfl
def ptF21 (x : ((List UInt8) × Int × Unit)) : Option (Int × Unit) := bif decide (x = ([63, 80, 76, 65, 73, 83, 88, 87, 82, 66, 85, 70, 72, 79, 67, 84, 78, 69, 77], (80, ()))) then some (1, ()) else bif decide (x = ([63, 80, 76, 65, 73, 83, 88, 87, 82, 66, 85, 70, 72, 79, 67, 84, 78, 69, 77], (87, ()))) then some (7, ()) else none
theorem ptF21_run (x : ((List UInt8) × Int × Unit)) (y : (Int × Unit)) (h : ptF21 x = some y) : runF (envP sgP25) 21 [.str, (.int .u8)] [((.int .i64), false)] x = some y := by
  unfold ptF21 at h
  rw [cond_eq_ite] at h
  split at h
  · rename_i he
    have e := of_decide_eq_true he
    subst e
    cases h
    exact pt21_0
  rw [cond_eq_ite] at h
  split at h
  · rename_i he
    have e := of_decide_eq_true he
    subst e
    cases h
    exact pt21_1
  cases h
theorem sumP21_ok : SumOk Tryd.prog 21 ⟨[.str, (.int .u8)], [((.int .i64), false)], ptF21⟩ := sum_of_run (envP_ok sgP25_ok) (by decide) fun x y h => ptF21_run x y h
noncomputable def sgP21 (g : FuncId) : Option Sum := bif Nat.beq g 21 then some ⟨[.str, (.int .u8)], [((.int .i64), false)], ptF21⟩ else sgP25 g
theorem sgP21_ok : ∀ g s, sgP21 g = some s → SumOk Tryd.prog g s := sg_or sgP25_ok sumP21_ok

/-! ### quillwort/tree.number -/
theorem pt22_0 : runF (envP sgP21) 22 [.str, (.int .i64)] [((.int .i64), false), ((.int .i64), false), (.bool, false)] (([80, 48, 45, 50, 40, 87, 48, 45, 49, 32, 87, 49, 45, 50, 41], (1, ())) : ((List UInt8) × Int × Unit)) = some ((0, (2, (true, ()))) : (Int × Int × Bool × Unit)) := by kernel_rfl
theorem pt22_1 : runF (envP sgP21) 22 [.str, (.int .i64)] [((.int .i64), false), ((.int .i64), false), (.bool, false)] (([80, 48, 45, 50, 40, 87, 48, 45, 49, 32, 87, 49, 45, 50, 41], (3, ())) : ((List UInt8) × Int × Unit)) = some ((2, (4, (true, ()))) : (Int × Int × Bool × Unit)) := by kernel_rfl
theorem pt22_2 : runF (envP sgP21) 22 [.str, (.int .i64)] [((.int .i64), false), ((.int .i64), false), (.bool, false)] (([80, 48, 45, 50, 40, 87, 48, 45, 49, 32, 87, 49, 45, 50, 41], (6, ())) : ((List UInt8) × Int × Unit)) = some ((0, (7, (true, ()))) : (Int × Int × Bool × Unit)) := by kernel_rfl
theorem pt22_3 : runF (envP sgP21) 22 [.str, (.int .i64)] [((.int .i64), false), ((.int .i64), false), (.bool, false)] (([80, 48, 45, 50, 40, 87, 48, 45, 49, 32, 87, 49, 45, 50, 41], (8, ())) : ((List UInt8) × Int × Unit)) = some ((1, (9, (true, ()))) : (Int × Int × Bool × Unit)) := by kernel_rfl
theorem pt22_4 : runF (envP sgP21) 22 [.str, (.int .i64)] [((.int .i64), false), ((.int .i64), false), (.bool, false)] (([80, 48, 45, 50, 40, 87, 48, 45, 49, 32, 87, 49, 45, 50, 41], (11, ())) : ((List UInt8) × Int × Unit)) = some ((1, (12, (true, ()))) : (Int × Int × Bool × Unit)) := by kernel_rfl
theorem pt22_5 : runF (envP sgP21) 22 [.str, (.int .i64)] [((.int .i64), false), ((.int .i64), false), (.bool, false)] (([80, 48, 45, 50, 40, 87, 48, 45, 49, 32, 87, 49, 45, 50, 41], (13, ())) : ((List UInt8) × Int × Unit)) = some ((2, (14, (true, ()))) : (Int × Int × Bool × Unit)) := by kernel_rfl
def ptF22 (x : ((List UInt8) × Int × Unit)) : Option (Int × Int × Bool × Unit) := bif decide (x = ([80, 48, 45, 50, 40, 87, 48, 45, 49, 32, 87, 49, 45, 50, 41], (1, ()))) then some (0, (2, (true, ()))) else bif decide (x = ([80, 48, 45, 50, 40, 87, 48, 45, 49, 32, 87, 49, 45, 50, 41], (3, ()))) then some (2, (4, (true, ()))) else bif decide (x = ([80, 48, 45, 50, 40, 87, 48, 45, 49, 32, 87, 49, 45, 50, 41], (6, ()))) then some (0, (7, (true, ()))) else bif decide (x = ([80, 48, 45, 50, 40, 87, 48, 45, 49, 32, 87, 49, 45, 50, 41], (8, ()))) then some (1, (9, (true, ()))) else bif decide (x = ([80, 48, 45, 50, 40, 87, 48, 45, 49, 32, 87, 49, 45, 50, 41], (11, ()))) then some (1, (12, (true, ()))) else bif decide (x = ([80, 48, 45, 50, 40, 87, 48, 45, 49, 32, 87, 49, 45, 50, 41], (13, ()))) then some (2, (14, (true, ()))) else none
theorem ptF22_run (x : ((List UInt8) × Int × Unit)) (y : (Int × Int × Bool × Unit)) (h : ptF22 x = some y) : runF (envP sgP21) 22 [.str, (.int .i64)] [((.int .i64), false), ((.int .i64), false), (.bool, false)] x = some y := by
  unfold ptF22 at h
  rw [cond_eq_ite] at h
  split at h
  · rename_i he
    have e := of_decide_eq_true he
    subst e
    cases h
    exact pt22_0
  rw [cond_eq_ite] at h
  split at h
  · rename_i he
    have e := of_decide_eq_true he
    subst e
    cases h
    exact pt22_1
  rw [cond_eq_ite] at h
  split at h
  · rename_i he
    have e := of_decide_eq_true he
    subst e
    cases h
    exact pt22_2
  rw [cond_eq_ite] at h
  split at h
  · rename_i he
    have e := of_decide_eq_true he
    subst e
    cases h
    exact pt22_3
  rw [cond_eq_ite] at h
  split at h
  · rename_i he
    have e := of_decide_eq_true he
    subst e
    cases h
    exact pt22_4
  rw [cond_eq_ite] at h
  split at h
  · rename_i he
    have e := of_decide_eq_true he
    subst e
    cases h
    exact pt22_5
  cases h
theorem sumP22_ok : SumOk Tryd.prog 22 ⟨[.str, (.int .i64)], [((.int .i64), false), ((.int .i64), false), (.bool, false)], ptF22⟩ := sum_of_run (envP_ok sgP21_ok) (by decide) fun x y h => ptF22_run x y h
noncomputable def sgP22 (g : FuncId) : Option Sum := bif Nat.beq g 22 then some ⟨[.str, (.int .i64)], [((.int .i64), false), ((.int .i64), false), (.bool, false)], ptF22⟩ else sgP21 g
theorem sgP22_ok : ∀ g s, sgP22 g = some s → SumOk Tryd.prog g s := sg_or sgP21_ok sumP22_ok

/-! ### quillwort/tree.node -/
theorem pt16_0 : runF (envP sgP22) 16 [.str, (.int .i64)] [((.pair (.int .i64) (.pair (.int .i64) (.pair (.int .i64) (.pair (.int .i64) .unit)))), false), ((.int .i64), false), (.bool, false)] (([80, 48, 45, 50, 40, 87, 48, 45, 49, 32, 87, 49, 45, 50, 41], (0, ())) : ((List UInt8) × Int × Unit)) = some (((1, (0, (2, (0, ())))), (4, (true, ()))) : ((Int × (Int × (Int × (Int × Unit)))) × Int × Bool × Unit)) := by kernel_rfl
theorem pt16_1 : runF (envP sgP22) 16 [.str, (.int .i64)] [((.pair (.int .i64) (.pair (.int .i64) (.pair (.int .i64) (.pair (.int .i64) .unit)))), false), ((.int .i64), false), (.bool, false)] (([80, 48, 45, 50, 40, 87, 48, 45, 49, 32, 87, 49, 45, 50, 41], (5, ())) : ((List UInt8) × Int × Unit)) = some (((7, (0, (1, (0, ())))), (9, (true, ()))) : ((Int × (Int × (Int × (Int × Unit)))) × Int × Bool × Unit)) := by kernel_rfl
theorem pt16_2 : runF (envP sgP22) 16 [.str, (.int .i64)] [((.pair (.int .i64) (.pair (.int .i64) (.pair (.int .i64) (.pair (.int .i64) .unit)))), false), ((.int .i64), false), (.bool, false)] (([80, 48, 45, 50, 40, 87, 48, 45, 49, 32, 87, 49, 45, 50, 41], (10, ())) : ((List UInt8) × Int × Unit)) = some (((7, (1, (2, (0, ())))), (14, (true, ()))) : ((Int × (Int × (Int × (Int × Unit)))) × Int × Bool × Unit)) := by kernel_rfl
def ptF16 (x : ((List UInt8) × Int × Unit)) : Option ((Int × (Int × (Int × (Int × Unit)))) × Int × Bool × Unit) := bif decide (x = ([80, 48, 45, 50, 40, 87, 48, 45, 49, 32, 87, 49, 45, 50, 41], (0, ()))) then some ((1, (0, (2, (0, ())))), (4, (true, ()))) else bif decide (x = ([80, 48, 45, 50, 40, 87, 48, 45, 49, 32, 87, 49, 45, 50, 41], (5, ()))) then some ((7, (0, (1, (0, ())))), (9, (true, ()))) else bif decide (x = ([80, 48, 45, 50, 40, 87, 48, 45, 49, 32, 87, 49, 45, 50, 41], (10, ()))) then some ((7, (1, (2, (0, ())))), (14, (true, ()))) else none
theorem ptF16_run (x : ((List UInt8) × Int × Unit)) (y : ((Int × (Int × (Int × (Int × Unit)))) × Int × Bool × Unit)) (h : ptF16 x = some y) : runF (envP sgP22) 16 [.str, (.int .i64)] [((.pair (.int .i64) (.pair (.int .i64) (.pair (.int .i64) (.pair (.int .i64) .unit)))), false), ((.int .i64), false), (.bool, false)] x = some y := by
  unfold ptF16 at h
  rw [cond_eq_ite] at h
  split at h
  · rename_i he
    have e := of_decide_eq_true he
    subst e
    cases h
    exact pt16_0
  rw [cond_eq_ite] at h
  split at h
  · rename_i he
    have e := of_decide_eq_true he
    subst e
    cases h
    exact pt16_1
  rw [cond_eq_ite] at h
  split at h
  · rename_i he
    have e := of_decide_eq_true he
    subst e
    cases h
    exact pt16_2
  cases h
theorem sumP16_ok : SumOk Tryd.prog 16 ⟨[.str, (.int .i64)], [((.pair (.int .i64) (.pair (.int .i64) (.pair (.int .i64) (.pair (.int .i64) .unit)))), false), ((.int .i64), false), (.bool, false)], ptF16⟩ := sum_of_run (envP_ok sgP22_ok) (by decide) fun x y h => ptF16_run x y h
noncomputable def sgP16 (g : FuncId) : Option Sum := bif Nat.beq g 16 then some ⟨[.str, (.int .i64)], [((.pair (.int .i64) (.pair (.int .i64) (.pair (.int .i64) (.pair (.int .i64) .unit)))), false), ((.int .i64), false), (.bool, false)], ptF16⟩ else sgP22 g
theorem sgP16_ok : ∀ g s, sgP16 g = some s → SumOk Tryd.prog g s := sg_or sgP22_ok sumP16_ok

/-! ### quillwort/tree.fits -/
theorem pt17_0 : runF (envP sgP16) 17 [(.pair (.int .i64) (.pair (.int .i64) (.pair (.int .i64) (.pair (.int .i64) .unit))))] [(.bool, false)] (((1, (0, (2, ((-1), ())))), ()) : ((Int × (Int × (Int × (Int × Unit)))) × Unit)) = some ((true, ()) : (Bool × Unit)) := by kernel_rfl
theorem pt17_1 : runF (envP sgP16) 17 [(.pair (.int .i64) (.pair (.int .i64) (.pair (.int .i64) (.pair (.int .i64) .unit))))] [(.bool, false)] (((7, (0, (1, (0, ())))), ()) : ((Int × (Int × (Int × (Int × Unit)))) × Unit)) = some ((true, ()) : (Bool × Unit)) := by kernel_rfl
theorem pt17_2 : runF (envP sgP16) 17 [(.pair (.int .i64) (.pair (.int .i64) (.pair (.int .i64) (.pair (.int .i64) .unit))))] [(.bool, false)] (((7, (1, (2, (0, ())))), ()) : ((Int × (Int × (Int × (Int × Unit)))) × Unit)) = some ((true, ()) : (Bool × Unit)) := by kernel_rfl
def ptF17 (x : ((Int × (Int × (Int × (Int × Unit)))) × Unit)) : Option (Bool × Unit) := bif decide (x = ((1, (0, (2, ((-1), ())))), ())) then some (true, ()) else bif decide (x = ((7, (0, (1, (0, ())))), ())) then some (true, ()) else bif decide (x = ((7, (1, (2, (0, ())))), ())) then some (true, ()) else none
theorem ptF17_run (x : ((Int × (Int × (Int × (Int × Unit)))) × Unit)) (y : (Bool × Unit)) (h : ptF17 x = some y) : runF (envP sgP16) 17 [(.pair (.int .i64) (.pair (.int .i64) (.pair (.int .i64) (.pair (.int .i64) .unit))))] [(.bool, false)] x = some y := by
  unfold ptF17 at h
  rw [cond_eq_ite] at h
  split at h
  · rename_i he
    have e := of_decide_eq_true he
    subst e
    cases h
    exact pt17_0
  rw [cond_eq_ite] at h
  split at h
  · rename_i he
    have e := of_decide_eq_true he
    subst e
    cases h
    exact pt17_1
  rw [cond_eq_ite] at h
  split at h
  · rename_i he
    have e := of_decide_eq_true he
    subst e
    cases h
    exact pt17_2
  cases h
theorem sumP17_ok : SumOk Tryd.prog 17 ⟨[(.pair (.int .i64) (.pair (.int .i64) (.pair (.int .i64) (.pair (.int .i64) .unit))))], [(.bool, false)], ptF17⟩ := sum_of_run (envP_ok sgP16_ok) (by decide) fun x y h => ptF17_run x y h
noncomputable def sgP17 (g : FuncId) : Option Sum := bif Nat.beq g 17 then some ⟨[(.pair (.int .i64) (.pair (.int .i64) (.pair (.int .i64) (.pair (.int .i64) .unit))))], [(.bool, false)], ptF17⟩ else sgP16 g
theorem sgP17_ok : ∀ g s, sgP17 g = some s → SumOk Tryd.prog g s := sg_or sgP16_ok sumP17_ok

/-! ### quillwort/tree.Check -/
theorem pt10_0 : runF (envP sgP17) 10 [(.list (.pair (.int .i64) (.pair (.int .i64) (.pair (.int .i64) (.pair (.int .i64) .unit))))), (.int .i64)] [(.bool, false)] (([(1, (0, (2, ((-1), ())))), (7, (0, (1, (0, ())))), (7, (1, (2, (0, ()))))], (2, ())) : ((List (Int × (Int × (Int × (Int × Unit))))) × Int × Unit)) = some ((true, ()) : (Bool × Unit)) := by kernel_rfl
def ptF10 (x : ((List (Int × (Int × (Int × (Int × Unit))))) × Int × Unit)) : Option (Bool × Unit) := bif decide (x = ([(1, (0, (2, ((-1), ())))), (7, (0, (1, (0, ())))), (7, (1, (2, (0, ()))))], (2, ()))) then some (true, ()) else none
theorem ptF10_run (x : ((List (Int × (Int × (Int × (Int × Unit))))) × Int × Unit)) (y : (Bool × Unit)) (h : ptF10 x = some y) : runF (envP sgP17) 10 [(.list (.pair (.int .i64) (.pair (.int .i64) (.pair (.int .i64) (.pair (.int .i64) .unit))))), (.int .i64)] [(.bool, false)] x = some y := by
  unfold ptF10 at h
  rw [cond_eq_ite] at h
  split at h
  · rename_i he
    have e := of_decide_eq_true he
    subst e
    cases h
    exact pt10_0
  cases h
theorem sumP10_ok : SumOk Tryd.prog 10 ⟨[(.list (.pair (.int .i64) (.pair (.int .i64) (.pair (.int .i64) (.pair (.int .i64) .unit))))), (.int .i64)], [(.bool, false)], ptF10⟩ := sum_of_run (envP_ok sgP17_ok) (by decide) fun x y h => ptF10_run x y h
noncomputable def sgP10 (g : FuncId) : Option Sum := bif Nat.beq g 10 then some ⟨[(.list (.pair (.int .i64) (.pair (.int .i64) (.pair (.int .i64) (.pair (.int .i64) .unit))))), (.int .i64)], [(.bool, false)], ptF10⟩ else sgP17 g
theorem sgP10_ok : ∀ g s, sgP10 g = some s → SumOk Tryd.prog g s := sg_or sgP17_ok sumP10_ok

/-! ### quillwort/tree.Read -/
theorem pt8_0 : runF (envP sgP10) 8 [.str] [((.list (.pair (.int .i64) (.pair (.int .i64) (.pair (.int .i64) (.pair (.int .i64) .unit))))), false), ((.int .i64), false), ((.int .i64), false)] (([80, 48, 45, 50, 40, 87, 48, 45, 49, 32, 87, 49, 45, 50, 41], ()) : ((List UInt8) × Unit)) = some (([(1, (0, (2, ((-1), ())))), (7, (0, (1, (0, ())))), (7, (1, (2, (0, ()))))], (0, (0, ()))) : ((List (Int × (Int × (Int × (Int × Unit))))) × Int × Int × Unit)) := by kernel_rfl
def ptF8 (x : ((List UInt8) × Unit)) : Option ((List (Int × (Int × (Int × (Int × Unit))))) × Int × Int × Unit) := bif decide (x = ([80, 48, 45, 50, 40, 87, 48, 45, 49, 32, 87, 49, 45, 50, 41], ())) then some ([(1, (0, (2, ((-1), ())))), (7, (0, (1, (0, ())))), (7, (1, (2, (0, ()))))], (0, (0, ()))) else none
theorem ptF8_run (x : ((List UInt8) × Unit)) (y : ((List (Int × (Int × (Int × (Int × Unit))))) × Int × Int × Unit)) (h : ptF8 x = some y) : runF (envP sgP10) 8 [.str] [((.list (.pair (.int .i64) (.pair (.int .i64) (.pair (.int .i64) (.pair (.int .i64) .unit))))), false), ((.int .i64), false), ((.int .i64), false)] x = some y := by
  unfold ptF8 at h
  rw [cond_eq_ite] at h
  split at h
  · rename_i he
    have e := of_decide_eq_true he
    subst e
    cases h
    exact pt8_0
  cases h
theorem sumP8_ok : SumOk Tryd.prog 8 ⟨[.str], [((.list (.pair (.int .i64) (.pair (.int .i64) (.pair (.int .i64) (.pair (.int .i64) .unit))))), false), ((.int .i64), false), ((.int .i64), false)], ptF8⟩ := sum_of_run (envP_ok sgP10_ok) (by decide) fun x y h => ptF8_run x y h
noncomputable def sgP8 (g : FuncId) : Option Sum := bif Nat.beq g 8 then some ⟨[.str], [((.list (.pair (.int .i64) (.pair (.int .i64) (.pair (.int .i64) (.pair (.int .i64) .unit))))), false), ((.int .i64), false), ((.int .i64), false)], ptF8⟩ else sgP10 g
theorem sgP8_ok : ∀ g s, sgP8 g = some s → SumOk Tryd.prog g s := sg_or sgP10_ok sumP8_ok

theorem awake_run : runF (envP sgP8) 4 [] [(.bool, false)] () = some (true, ()) := by kernel_rfl
def sumAwake : Sum := ⟨[], [(.bool, false)], fun _ => some (true, ())⟩
theorem sumAwake_ok : SumOk Tryd.prog 4 sumAwake := sum_of_run (envP_ok sgP8_ok) (by decide) fun x y h => by
  cases h
  exact awake_run
end Go.Proofs.YtnmaceljkegenaaDoor
