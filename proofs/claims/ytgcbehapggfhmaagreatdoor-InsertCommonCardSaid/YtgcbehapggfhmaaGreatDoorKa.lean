/-
  Sums by points; awake.
-/
import Derived.Test.YtgcbehapggfhmaaGreatDoorE
namespace Go.Proofs.YtgcbehapggfhmaaGreatDoor
open Go.RowKit
set_option maxRecDepth 100000
set_option linter.unusedVariables false
set_option linter.unusedSimpArgs false

noncomputable def envP (sg : FuncId → Option Sum) : Env := { P := Tryz.prog, T := tt, cl := true, kp := fun _ _ => none, sg := sg, lp := fun _ _ => none, bf := isChk }
theorem envP_ok {sg : FuncId → Option Sum} (h : ∀ g s, sg g = some s → SumOk Tryz.prog g s) : EnvOk (envP sg) := ⟨tok, mixed, noGor, h, fun f fn c _ _ => loopsOk_none (fun _ => rfl) (fun _ => rfl) c, rf_ok _ fun f fn c _ _ => loopsOk_none (fun _ => rfl) (fun _ => rfl) c, chk_ok, fun _ _ h => by cases h⟩
theorem sg_or {sg : FuncId → Option Sum} (h : ∀ g s, sg g = some s → SumOk Tryz.prog g s) {f : FuncId} {s0 : Sum} (h0 : SumOk Tryz.prog f s0) : ∀ g s, (bif Nat.beq g f then some s0 else sg g) = some s → SumOk Tryz.prog g s := fun g s e => by
  rw [cond_eq_ite] at e
  split at e
  · rename_i hg
    obtain rfl : g = f := Nat.eq_of_beq_eq_true hg
    cases e
    exact h0
  · exact h g s e

/-! ### quillwort/class.Of -/
theorem pt111_0 : runF (envP sg1) 111 [(.int .u8)] [((.int .i64), false)] ((108, ()) : (Int × Unit)) = some ((5, ()) : (Int × Unit)) := by kernel_rfl
theorem pt111_1 : runF (envP sg1) 111 [(.int .u8)] [((.int .i64), false)] ((115, ()) : (Int × Unit)) = some ((5, ()) : (Int × Unit)) := by kernel_rfl
theorem pt111_2 : runF (envP sg1) 111 [(.int .u8)] [((.int .i64), false)] ((32, ()) : (Int × Unit)) = some ((1, ()) : (Int × Unit)) := by kernel_rfl
theorem pt111_3 : runF (envP sg1) 111 [(.int .u8)] [((.int .i64), false)] ((34, ()) : (Int × Unit)) = some ((4, ()) : (Int × Unit)) := by kernel_rfl
theorem pt111_4 : runF (envP sg1) 111 [(.int .u8)] [((.int .i64), false)] ((120, ()) : (Int × Unit)) = some ((5, ()) : (Int × Unit)) := by kernel_rfl
theorem pt111_5 : runF (envP sg1) 111 [(.int .u8)] [((.int .i64), false)] ((97, ()) : (Int × Unit)) = some ((5, ()) : (Int × Unit)) := by kernel_rfl
theorem pt111_6 : runF (envP sg1) 111 [(.int .u8)] [((.int .i64), false)] ((98, ()) : (Int × Unit)) = some ((5, ()) : (Int × Unit)) := by kernel_rfl
def ptF111 (x : (Int × Unit)) : Option (Int × Unit) := bif decide (x = (108, ())) then some (5, ()) else bif decide (x = (115, ())) then some (5, ()) else bif decide (x = (32, ())) then some (1, ()) else bif decide (x = (34, ())) then some (4, ()) else bif decide (x = (120, ())) then some (5, ()) else bif decide (x = (97, ())) then some (5, ()) else bif decide (x = (98, ())) then some (5, ()) else none
theorem ptF111_run (x : (Int × Unit)) (y : (Int × Unit)) (h : ptF111 x = some y) : runF (envP sg1) 111 [(.int .u8)] [((.int .i64), false)] x = some y := by
  unfold ptF111 at h
  rw [cond_eq_ite] at h
  split at h
  · rename_i he
    have e := of_decide_eq_true he
    subst e
    cases h
    exact pt111_0
  rw [cond_eq_ite] at h
  split at h
  · rename_i he
    have e := of_decide_eq_true he
    subst e
    cases h
    exact pt111_1
  rw [cond_eq_ite] at h
  split at h
  · rename_i he
    have e := of_decide_eq_true he
    subst e
    cases h
    exact pt111_2
  rw [cond_eq_ite] at h
  split at h
  · rename_i he
    have e := of_decide_eq_true he
    subst e
    cases h
    exact pt111_3
  rw [cond_eq_ite] at h
  split at h
  · rename_i he
    have e := of_decide_eq_true he
    subst e
    cases h
    exact pt111_4
  rw [cond_eq_ite] at h
  split at h
  · rename_i he
    have e := of_decide_eq_true he
    subst e
    cases h
    exact pt111_5
  rw [cond_eq_ite] at h
  split at h
  · rename_i he
    have e := of_decide_eq_true he
    subst e
    cases h
    exact pt111_6
  cases h
theorem sumP111_ok : SumOk Tryz.prog 111 ⟨[(.int .u8)], [((.int .i64), false)], ptF111⟩ := sum_of_run (envP_ok sg1_ok) (by decide) fun x y h => ptF111_run x y h
noncomputable def sgP111 (g : FuncId) : Option Sum := bif Nat.beq g 111 then some ⟨[(.int .u8)], [((.int .i64), false)], ptF111⟩ else sg1 g
theorem sgP111_ok : ∀ g s, sgP111 g = some s → SumOk Tryz.prog g s := sg_or sg1_ok sumP111_ok

/-! ### quillwort/rules.word -/
theorem pt158_0 : runF (envP sgP111) 158 [.str] [((.int .u8), false)] (([108, 115], ()) : ((List UInt8) × Unit)) = some ((120, ()) : (Int × Unit)) := by kernel_rfl
theorem pt158_1 : runF (envP sgP111) 158 [.str] [((.int .u8), false)] (([95], ()) : ((List UInt8) × Unit)) = some ((120, ()) : (Int × Unit)) := by kernel_rfl
def ptF158 (x : ((List UInt8) × Unit)) : Option (Int × Unit) := bif decide (x = ([108, 115], ())) then some (120, ()) else bif decide (x = ([95], ())) then some (120, ()) else none
theorem ptF158_run (x : ((List UInt8) × Unit)) (y : (Int × Unit)) (h : ptF158 x = some y) : runF (envP sgP111) 158 [.str] [((.int .u8), false)] x = some y := by
  unfold ptF158 at h
  rw [cond_eq_ite] at h
  split at h
  · rename_i he
    have e := of_decide_eq_true he
    subst e
    cases h
    exact pt158_0
  rw [cond_eq_ite] at h
  split at h
  · rename_i he
    have e := of_decide_eq_true he
    subst e
    cases h
    exact pt158_1
  cases h
theorem sumP158_ok : SumOk Tryz.prog 158 ⟨[.str], [((.int .u8), false)], ptF158⟩ := sum_of_run (envP_ok sgP111_ok) (by decide) fun x y h => ptF158_run x y h
noncomputable def sgP158 (g : FuncId) : Option Sum := bif Nat.beq g 158 then some ⟨[.str], [((.int .u8), false)], ptF158⟩ else sgP111 g
theorem sgP158_ok : ∀ g s, sgP158 g = some s → SumOk Tryz.prog g s := sg_or sgP111_ok sumP158_ok

/-! ### quillwort/class.Ends -/
theorem pt115_0 : runF (envP sgP158) 115 [(.int .u8)] [(.bool, false)] ((108, ()) : (Int × Unit)) = some ((false, ()) : (Bool × Unit)) := by kernel_rfl
theorem pt115_1 : runF (envP sgP158) 115 [(.int .u8)] [(.bool, false)] ((115, ()) : (Int × Unit)) = some ((false, ()) : (Bool × Unit)) := by kernel_rfl
theorem pt115_2 : runF (envP sgP158) 115 [(.int .u8)] [(.bool, false)] ((32, ()) : (Int × Unit)) = some ((true, ()) : (Bool × Unit)) := by kernel_rfl
theorem pt115_3 : runF (envP sgP158) 115 [(.int .u8)] [(.bool, false)] ((34, ()) : (Int × Unit)) = some ((false, ()) : (Bool × Unit)) := by kernel_rfl
theorem pt115_4 : runF (envP sgP158) 115 [(.int .u8)] [(.bool, false)] ((120, ()) : (Int × Unit)) = some ((false, ()) : (Bool × Unit)) := by kernel_rfl
def ptF115 (x : (Int × Unit)) : Option (Bool × Unit) := bif decide (x = (108, ())) then some (false, ()) else bif decide (x = (115, ())) then some (false, ()) else bif decide (x = (32, ())) then some (true, ()) else bif decide (x = (34, ())) then some (false, ()) else bif decide (x = (120, ())) then some (false, ()) else none
theorem ptF115_run (x : (Int × Unit)) (y : (Bool × Unit)) (h : ptF115 x = some y) : runF (envP sgP158) 115 [(.int .u8)] [(.bool, false)] x = some y := by
  unfold ptF115 at h
  rw [cond_eq_ite] at h
  split at h
  · rename_i he
    have e := of_decide_eq_true he
    subst e
    cases h
    exact pt115_0
  rw [cond_eq_ite] at h
  split at h
  · rename_i he
    have e := of_decide_eq_true he
    subst e
    cases h
    exact pt115_1
  rw [cond_eq_ite] at h
  split at h
  · rename_i he
    have e := of_decide_eq_true he
    subst e
    cases h
    exact pt115_2
  rw [cond_eq_ite] at h
  split at h
  · rename_i he
    have e := of_decide_eq_true he
    subst e
    cases h
    exact pt115_3
  rw [cond_eq_ite] at h
  split at h
  · rename_i he
    have e := of_decide_eq_true he
    subst e
    cases h
    exact pt115_4
  cases h
theorem sumP115_ok : SumOk Tryz.prog 115 ⟨[(.int .u8)], [(.bool, false)], ptF115⟩ := sum_of_run (envP_ok sgP158_ok) (by decide) fun x y h => ptF115_run x y h
noncomputable def sgP115 (g : FuncId) : Option Sum := bif Nat.beq g 115 then some ⟨[(.int .u8)], [(.bool, false)], ptF115⟩ else sgP158 g
theorem sgP115_ok : ∀ g s, sgP115 g = some s → SumOk Tryz.prog g s := sg_or sgP158_ok sumP115_ok

/-! ### quillwort/modes.Run -/
theorem pt22_0 : runF (envP sgP115) 22 [.str] [((.list (.pair (.int .i64) (.pair (.int .i64) .unit))), false), (.bool, false)] (([108, 115], ()) : ((List UInt8) × Unit)) = some (([(0, (0, ()))], (false, ())) : ((List (Int × (Int × Unit))) × Bool × Unit)) := by kernel_rfl
theorem pt22_1 : runF (envP sgP115) 22 [.str] [((.list (.pair (.int .i64) (.pair (.int .i64) .unit))), false), (.bool, false)] (([34, 120], ()) : ((List UInt8) × Unit)) = some (([(0, (0, ())), (5, (0, ()))], (false, ())) : ((List (Int × (Int × Unit))) × Bool × Unit)) := by kernel_rfl
def ptF22 (x : ((List UInt8) × Unit)) : Option ((List (Int × (Int × Unit))) × Bool × Unit) := bif decide (x = ([108, 115], ())) then some ([(0, (0, ()))], (false, ())) else bif decide (x = ([34, 120], ())) then some ([(0, (0, ())), (5, (0, ()))], (false, ())) else none
theorem ptF22_run (x : ((List UInt8) × Unit)) (y : ((List (Int × (Int × Unit))) × Bool × Unit)) (h : ptF22 x = some y) : runF (envP sgP115) 22 [.str] [((.list (.pair (.int .i64) (.pair (.int .i64) .unit))), false), (.bool, false)] x = some y := by
  unfold ptF22 at h
  rw [cond_eq_ite] at h
  split at h
  · rename_i he
    have e := of_decide_eq_true he
    subst e
    cases h
    exact pt22_0
  rw [cond_eq_ite] at h
  split at h
  · rename_i he
    have e := of_decide_eq_true he
    subst e
    cases h
    exact pt22_1
  cases h
theorem sumP22_ok : SumOk Tryz.prog 22 ⟨[.str], [((.list (.pair (.int .i64) (.pair (.int .i64) .unit))), false), (.bool, false)], ptF22⟩ := sum_of_run (envP_ok sgP115_ok) (by decide) fun x y h => ptF22_run x y h
noncomputable def sgP22 (g : FuncId) : Option Sum := bif Nat.beq g 22 then some ⟨[.str], [((.list (.pair (.int .i64) (.pair (.int .i64) .unit))), false), (.bool, false)], ptF22⟩ else sgP115 g
theorem sgP22_ok : ∀ g s, sgP22 g = some s → SumOk Tryz.prog g s := sg_or sgP115_ok sumP22_ok

/-! ### quillwort/parts.Of -/
theorem pt44_0 : runF (envP sgP22) 44 [.str] [((.list (.pair (.int .i64) (.pair (.int .i64) (.pair (.int .i64) (.pair (.int .i64) (.pair .bool .unit)))))), false)] (([34, 120], ()) : ((List UInt8) × Unit)) = some (([(5, (0, (2, ((-1), (true, ())))))], ()) : ((List (Int × (Int × (Int × (Int × (Bool × Unit)))))) × Unit)) := by kernel_rfl
theorem pt44_1 : runF (envP sgP22) 44 [.str] [((.list (.pair (.int .i64) (.pair (.int .i64) (.pair (.int .i64) (.pair (.int .i64) (.pair .bool .unit)))))), false)] (([108, 115], ()) : ((List UInt8) × Unit)) = some (([], ()) : ((List (Int × (Int × (Int × (Int × (Bool × Unit)))))) × Unit)) := by kernel_rfl
def ptF44 (x : ((List UInt8) × Unit)) : Option ((List (Int × (Int × (Int × (Int × (Bool × Unit)))))) × Unit) := bif decide (x = ([34, 120], ())) then some ([(5, (0, (2, ((-1), (true, ())))))], ()) else bif decide (x = ([108, 115], ())) then some ([], ()) else none
theorem ptF44_run (x : ((List UInt8) × Unit)) (y : ((List (Int × (Int × (Int × (Int × (Bool × Unit)))))) × Unit)) (h : ptF44 x = some y) : runF (envP sgP22) 44 [.str] [((.list (.pair (.int .i64) (.pair (.int .i64) (.pair (.int .i64) (.pair (.int .i64) (.pair .bool .unit)))))), false)] x = some y := by
  unfold ptF44 at h
  rw [cond_eq_ite] at h
  split at h
  · rename_i he
    have e := of_decide_eq_true he
    subst e
    cases h
    exact pt44_0
  rw [cond_eq_ite] at h
  split at h
  · rename_i he
    have e := of_decide_eq_true he
    subst e
    cases h
    exact pt44_1
  cases h
theorem sumP44_ok : SumOk Tryz.prog 44 ⟨[.str], [((.list (.pair (.int .i64) (.pair (.int .i64) (.pair (.int .i64) (.pair (.int .i64) (.pair .bool .unit)))))), false)], ptF44⟩ := sum_of_run (envP_ok sgP22_ok) (by decide) fun x y h => ptF44_run x y h
noncomputable def sgP44 (g : FuncId) : Option Sum := bif Nat.beq g 44 then some ⟨[.str], [((.list (.pair (.int .i64) (.pair (.int .i64) (.pair (.int .i64) (.pair (.int .i64) (.pair .bool .unit)))))), false)], ptF44⟩ else sgP22 g
theorem sgP44_ok : ∀ g s, sgP44 g = some s → SumOk Tryz.prog g s := sg_or sgP22_ok sumP44_ok

/-! ### quillwort/literal.Value -/
theorem pt30_0 : runF (envP sgP44) 30 [.str] [(.str, false), (.bool, false)] (([34, 120], ()) : ((List UInt8) × Unit)) = some (([120], (true, ())) : ((List UInt8) × Bool × Unit)) := by kernel_rfl
theorem pt30_1 : runF (envP sgP44) 30 [.str] [(.str, false), (.bool, false)] (([108, 115], ()) : ((List UInt8) × Unit)) = some (([108, 115], (true, ())) : ((List UInt8) × Bool × Unit)) := by kernel_rfl
def ptF30 (x : ((List UInt8) × Unit)) : Option ((List UInt8) × Bool × Unit) := bif decide (x = ([34, 120], ())) then some ([120], (true, ())) else bif decide (x = ([108, 115], ())) then some ([108, 115], (true, ())) else none
theorem ptF30_run (x : ((List UInt8) × Unit)) (y : ((List UInt8) × Bool × Unit)) (h : ptF30 x = some y) : runF (envP sgP44) 30 [.str] [(.str, false), (.bool, false)] x = some y := by
  unfold ptF30 at h
  rw [cond_eq_ite] at h
  split at h
  · rename_i he
    have e := of_decide_eq_true he
    subst e
    cases h
    exact pt30_0
  rw [cond_eq_ite] at h
  split at h
  · rename_i he
    have e := of_decide_eq_true he
    subst e
    cases h
    exact pt30_1
  cases h
theorem sumP30_ok : SumOk Tryz.prog 30 ⟨[.str], [(.str, false), (.bool, false)], ptF30⟩ := sum_of_run (envP_ok sgP44_ok) (by decide) fun x y h => ptF30_run x y h
noncomputable def sgP30 (g : FuncId) : Option Sum := bif Nat.beq g 30 then some ⟨[.str], [(.str, false), (.bool, false)], ptF30⟩ else sgP44 g
theorem sgP30_ok : ∀ g s, sgP30 g = some s → SumOk Tryz.prog g s := sg_or sgP44_ok sumP30_ok

/-! ### quillwort/context.substitutions -/
theorem pt23_0 : runF (envP sgP30) 23 [(.list (.pair (.int .i64) (.pair (.int .i64) .unit)))] [((.int .i64), false)] (([(0, (0, ())), (5, (0, ()))], ()) : ((List (Int × (Int × Unit))) × Unit)) = some ((0, ()) : (Int × Unit)) := by kernel_rfl
def ptF23 (x : ((List (Int × (Int × Unit))) × Unit)) : Option (Int × Unit) := bif decide (x = ([(0, (0, ())), (5, (0, ()))], ())) then some (0, ()) else none
theorem ptF23_run (x : ((List (Int × (Int × Unit))) × Unit)) (y : (Int × Unit)) (h : ptF23 x = some y) : runF (envP sgP30) 23 [(.list (.pair (.int .i64) (.pair (.int .i64) .unit)))] [((.int .i64), false)] x = some y := by
  unfold ptF23 at h
  rw [cond_eq_ite] at h
  split at h
  · rename_i he
    have e := of_decide_eq_true he
    subst e
    cases h
    exact pt23_0
  cases h
theorem sumP23_ok : SumOk Tryz.prog 23 ⟨[(.list (.pair (.int .i64) (.pair (.int .i64) .unit)))], [((.int .i64), false)], ptF23⟩ := sum_of_run (envP_ok sgP30_ok) (by decide) fun x y h => ptF23_run x y h
noncomputable def sgP23 (g : FuncId) : Option Sum := bif Nat.beq g 23 then some ⟨[(.list (.pair (.int .i64) (.pair (.int .i64) .unit)))], [((.int .i64), false)], ptF23⟩ else sgP30 g
theorem sgP23_ok : ∀ g s, sgP23 g = some s → SumOk Tryz.prog g s := sg_or sgP30_ok sumP23_ok

/-! ### quillwort/tree.Cover -/
theorem pt51_0 : runF (envP sgP23) 51 [(.list (.pair (.int .i64) (.pair (.int .i64) (.pair (.int .i64) (.pair (.int .i64) .unit))))), (.int .i64)] [((.int .i64), false)] (([(1, (0, (2, ((-1), ())))), (2, (0, (2, (0, ())))), (3, (0, (2, (1, ())))), (4, (0, (2, (2, ())))), (5, (0, (2, (3, ())))), (7, (0, (1, (4, ())))), (7, (1, (2, (4, ()))))], (1, ())) : ((List (Int × (Int × (Int × (Int × Unit))))) × Int × Unit)) = some ((6, ()) : (Int × Unit)) := by kernel_rfl
def ptF51 (x : ((List (Int × (Int × (Int × (Int × Unit))))) × Int × Unit)) : Option (Int × Unit) := bif decide (x = ([(1, (0, (2, ((-1), ())))), (2, (0, (2, (0, ())))), (3, (0, (2, (1, ())))), (4, (0, (2, (2, ())))), (5, (0, (2, (3, ())))), (7, (0, (1, (4, ())))), (7, (1, (2, (4, ()))))], (1, ()))) then some (6, ()) else none
theorem ptF51_run (x : ((List (Int × (Int × (Int × (Int × Unit))))) × Int × Unit)) (y : (Int × Unit)) (h : ptF51 x = some y) : runF (envP sgP23) 51 [(.list (.pair (.int .i64) (.pair (.int .i64) (.pair (.int .i64) (.pair (.int .i64) .unit))))), (.int .i64)] [((.int .i64), false)] x = some y := by
  unfold ptF51 at h
  rw [cond_eq_ite] at h
  split at h
  · rename_i he
    have e := of_decide_eq_true he
    subst e
    cases h
    exact pt51_0
  cases h
theorem sumP51_ok : SumOk Tryz.prog 51 ⟨[(.list (.pair (.int .i64) (.pair (.int .i64) (.pair (.int .i64) (.pair (.int .i64) .unit))))), (.int .i64)], [((.int .i64), false)], ptF51⟩ := sum_of_run (envP_ok sgP23_ok) (by decide) fun x y h => ptF51_run x y h
noncomputable def sgP51 (g : FuncId) : Option Sum := bif Nat.beq g 51 then some ⟨[(.list (.pair (.int .i64) (.pair (.int .i64) (.pair (.int .i64) (.pair (.int .i64) .unit))))), (.int .i64)], [((.int .i64), false)], ptF51⟩ else sgP23 g
theorem sgP51_ok : ∀ g s, sgP51 g = some s → SumOk Tryz.prog g s := sg_or sgP23_ok sumP51_ok

/-! ### quillwort/tree.Kids -/
theorem pt80_0 : runF (envP sgP51) 80 [(.list (.pair (.int .i64) (.pair (.int .i64) (.pair (.int .i64) (.pair (.int .i64) .unit))))), (.int .i64)] [((.list (.int .i64)), false)] (([(1, (0, (2, ((-1), ())))), (2, (0, (2, (0, ())))), (3, (0, (2, (1, ())))), (4, (0, (2, (2, ())))), (5, (0, (2, (3, ())))), (7, (0, (1, (4, ())))), (7, (1, (2, (4, ()))))], (4, ())) : ((List (Int × (Int × (Int × (Int × Unit))))) × Int × Unit)) = some (([5, 6], ()) : ((List Int) × Unit)) := by kernel_rfl
def ptF80 (x : ((List (Int × (Int × (Int × (Int × Unit))))) × Int × Unit)) : Option ((List Int) × Unit) := bif decide (x = ([(1, (0, (2, ((-1), ())))), (2, (0, (2, (0, ())))), (3, (0, (2, (1, ())))), (4, (0, (2, (2, ())))), (5, (0, (2, (3, ())))), (7, (0, (1, (4, ())))), (7, (1, (2, (4, ()))))], (4, ()))) then some ([5, 6], ()) else none
theorem ptF80_run (x : ((List (Int × (Int × (Int × (Int × Unit))))) × Int × Unit)) (y : ((List Int) × Unit)) (h : ptF80 x = some y) : runF (envP sgP51) 80 [(.list (.pair (.int .i64) (.pair (.int .i64) (.pair (.int .i64) (.pair (.int .i64) .unit))))), (.int .i64)] [((.list (.int .i64)), false)] x = some y := by
  unfold ptF80 at h
  rw [cond_eq_ite] at h
  split at h
  · rename_i he
    have e := of_decide_eq_true he
    subst e
    cases h
    exact pt80_0
  cases h
theorem sumP80_ok : SumOk Tryz.prog 80 ⟨[(.list (.pair (.int .i64) (.pair (.int .i64) (.pair (.int .i64) (.pair (.int .i64) .unit))))), (.int .i64)], [((.list (.int .i64)), false)], ptF80⟩ := sum_of_run (envP_ok sgP51_ok) (by decide) fun x y h => ptF80_run x y h
noncomputable def sgP80 (g : FuncId) : Option Sum := bif Nat.beq g 80 then some ⟨[(.list (.pair (.int .i64) (.pair (.int .i64) (.pair (.int .i64) (.pair (.int .i64) .unit))))), (.int .i64)], [((.list (.int .i64)), false)], ptF80⟩ else sgP51 g
theorem sgP80_ok : ∀ g s, sgP80 g = some s → SumOk Tryz.prog g s := sg_or sgP51_ok sumP80_ok

/-! ### quillwort/context.ahead -/
theorem pt52_0 : runF (envP sgP80) 52 [(.list (.pair (.int .i64) (.pair (.int .i64) (.pair (.int .i64) (.pair (.int .i64) .unit))))), (.int .i64), (.int .i64)] [((.int .i64), false), ((.int .i64), false)] (([(1, (0, (2, ((-1), ())))), (2, (0, (2, (0, ())))), (3, (0, (2, (1, ())))), (4, (0, (2, (2, ())))), (5, (0, (2, (3, ())))), (7, (0, (1, (4, ())))), (7, (1, (2, (4, ()))))], (4, (6, ()))) : ((List (Int × (Int × (Int × (Int × Unit))))) × Int × Int × Unit)) = some ((1, (5, ())) : (Int × Int × Unit)) := by kernel_rfl
def ptF52 (x : ((List (Int × (Int × (Int × (Int × Unit))))) × Int × Int × Unit)) : Option (Int × Int × Unit) := bif decide (x = ([(1, (0, (2, ((-1), ())))), (2, (0, (2, (0, ())))), (3, (0, (2, (1, ())))), (4, (0, (2, (2, ())))), (5, (0, (2, (3, ())))), (7, (0, (1, (4, ())))), (7, (1, (2, (4, ()))))], (4, (6, ())))) then some (1, (5, ())) else none
theorem ptF52_run (x : ((List (Int × (Int × (Int × (Int × Unit))))) × Int × Int × Unit)) (y : (Int × Int × Unit)) (h : ptF52 x = some y) : runF (envP sgP80) 52 [(.list (.pair (.int .i64) (.pair (.int .i64) (.pair (.int .i64) (.pair (.int .i64) .unit))))), (.int .i64), (.int .i64)] [((.int .i64), false), ((.int .i64), false)] x = some y := by
  unfold ptF52 at h
  rw [cond_eq_ite] at h
  split at h
  · rename_i he
    have e := of_decide_eq_true he
    subst e
    cases h
    exact pt52_0
  cases h
theorem sumP52_ok : SumOk Tryz.prog 52 ⟨[(.list (.pair (.int .i64) (.pair (.int .i64) (.pair (.int .i64) (.pair (.int .i64) .unit))))), (.int .i64), (.int .i64)], [((.int .i64), false), ((.int .i64), false)], ptF52⟩ := sum_of_run (envP_ok sgP80_ok) (by decide) fun x y h => ptF52_run x y h
noncomputable def sgP52 (g : FuncId) : Option Sum := bif Nat.beq g 52 then some ⟨[(.list (.pair (.int .i64) (.pair (.int .i64) (.pair (.int .i64) (.pair (.int .i64) .unit))))), (.int .i64), (.int .i64)], [((.int .i64), false), ((.int .i64), false)], ptF52⟩ else sgP80 g
theorem sgP52_ok : ∀ g s, sgP52 g = some s → SumOk Tryz.prog g s := sg_or sgP80_ok sumP52_ok

/-! ### quillwort/token.continued -/
theorem pt119_0 : runF (envP sgP52) 119 [.str, (.int .i64)] [(.bool, false)] (([108, 115, 32, 34, 120], (0, ())) : ((List UInt8) × Int × Unit)) = some ((false, ()) : (Bool × Unit)) := by kernel_rfl
theorem pt119_1 : runF (envP sgP52) 119 [.str, (.int .i64)] [(.bool, false)] (([108, 115, 32, 34, 120], (3, ())) : ((List UInt8) × Int × Unit)) = some ((false, ()) : (Bool × Unit)) := by kernel_rfl
def ptF119 (x : ((List UInt8) × Int × Unit)) : Option (Bool × Unit) := bif decide (x = ([108, 115, 32, 34, 120], (0, ()))) then some (false, ()) else bif decide (x = ([108, 115, 32, 34, 120], (3, ()))) then some (false, ()) else none
theorem ptF119_run (x : ((List UInt8) × Int × Unit)) (y : (Bool × Unit)) (h : ptF119 x = some y) : runF (envP sgP52) 119 [.str, (.int .i64)] [(.bool, false)] x = some y := by
  unfold ptF119 at h
  rw [cond_eq_ite] at h
  split at h
  · rename_i he
    have e := of_decide_eq_true he
    subst e
    cases h
    exact pt119_0
  rw [cond_eq_ite] at h
  split at h
  · rename_i he
    have e := of_decide_eq_true he
    subst e
    cases h
    exact pt119_1
  cases h
theorem sumP119_ok : SumOk Tryz.prog 119 ⟨[.str, (.int .i64)], [(.bool, false)], ptF119⟩ := sum_of_run (envP_ok sgP52_ok) (by decide) fun x y h => ptF119_run x y h
noncomputable def sgP119 (g : FuncId) : Option Sum := bif Nat.beq g 119 then some ⟨[.str, (.int .i64)], [(.bool, false)], ptF119⟩ else sgP52 g
theorem sgP119_ok : ∀ g s, sgP119 g = some s → SumOk Tryz.prog g s := sg_or sgP52_ok sumP119_ok

/-! ### quillwort/token.plain -/
theorem pt93_0 : runF (envP sgP119) 93 [.str, (.int .i64)] [((.pair (.int .i64) (.pair (.int .i64) (.pair (.int .i64) (.pair .bool .unit)))), false)] (([108, 115, 32, 34, 120], (0, ())) : ((List UInt8) × Int × Unit)) = some (((6, (0, (2, (false, ())))), ()) : ((Int × (Int × (Int × (Bool × Unit)))) × Unit)) := by kernel_rfl
theorem pt93_1 : runF (envP sgP119) 93 [.str, (.int .i64)] [((.pair (.int .i64) (.pair (.int .i64) (.pair (.int .i64) (.pair .bool .unit)))), false)] (([108, 115, 32, 34, 120], (2, ())) : ((List UInt8) × Int × Unit)) = some (((1, (2, (3, (false, ())))), ()) : ((Int × (Int × (Int × (Bool × Unit)))) × Unit)) := by kernel_rfl
theorem pt93_2 : runF (envP sgP119) 93 [.str, (.int .i64)] [((.pair (.int .i64) (.pair (.int .i64) (.pair (.int .i64) (.pair .bool .unit)))), false)] (([108, 115, 32, 34, 120], (3, ())) : ((List UInt8) × Int × Unit)) = some (((6, (3, (5, (true, ())))), ()) : ((Int × (Int × (Int × (Bool × Unit)))) × Unit)) := by kernel_rfl
def ptF93 (x : ((List UInt8) × Int × Unit)) : Option ((Int × (Int × (Int × (Bool × Unit)))) × Unit) := bif decide (x = ([108, 115, 32, 34, 120], (0, ()))) then some ((6, (0, (2, (false, ())))), ()) else bif decide (x = ([108, 115, 32, 34, 120], (2, ()))) then some ((1, (2, (3, (false, ())))), ()) else bif decide (x = ([108, 115, 32, 34, 120], (3, ()))) then some ((6, (3, (5, (true, ())))), ()) else none
theorem ptF93_run (x : ((List UInt8) × Int × Unit)) (y : ((Int × (Int × (Int × (Bool × Unit)))) × Unit)) (h : ptF93 x = some y) : runF (envP sgP119) 93 [.str, (.int .i64)] [((.pair (.int .i64) (.pair (.int .i64) (.pair (.int .i64) (.pair .bool .unit)))), false)] x = some y := by
  unfold ptF93 at h
  rw [cond_eq_ite] at h
  split at h
  · rename_i he
    have e := of_decide_eq_true he
    subst e
    cases h
    exact pt93_0
  rw [cond_eq_ite] at h
  split at h
  · rename_i he
    have e := of_decide_eq_true he
    subst e
    cases h
    exact pt93_1
  rw [cond_eq_ite] at h
  split at h
  · rename_i he
    have e := of_decide_eq_true he
    subst e
    cases h
    exact pt93_2
  cases h
theorem sumP93_ok : SumOk Tryz.prog 93 ⟨[.str, (.int .i64)], [((.pair (.int .i64) (.pair (.int .i64) (.pair (.int .i64) (.pair .bool .unit)))), false)], ptF93⟩ := sum_of_run (envP_ok sgP119_ok) (by decide) fun x y h => ptF93_run x y h
noncomputable def sgP93 (g : FuncId) : Option Sum := bif Nat.beq g 93 then some ⟨[.str, (.int .i64)], [((.pair (.int .i64) (.pair (.int .i64) (.pair (.int .i64) (.pair .bool .unit)))), false)], ptF93⟩ else sgP119 g
theorem sgP93_ok : ∀ g s, sgP93 g = some s → SumOk Tryz.prog g s := sg_or sgP119_ok sumP93_ok

/-! ### quillwort/context.at -/
theorem pt13_0 : runF (envP sgP93) 13 [.str] [((.pair (.int .i64) (.pair (.int .i64) (.pair (.int .i64) (.pair (.int .i64) (.pair .str (.pair .bool (.pair .str (.pair (.int .i64) (.pair (.int .i64) .unit))))))))), false)] (([108, 115, 32, 34, 120], ()) : ((List UInt8) × Unit)) = some (((1, (2, (3, (5, ([120], (true, ([108, 115], (1, (0, ()))))))))), ()) : ((Int × (Int × (Int × (Int × ((List UInt8) × (Bool × ((List UInt8) × (Int × (Int × Unit))))))))) × Unit)) := by kernel_rfl
def ptF13 (x : ((List UInt8) × Unit)) : Option ((Int × (Int × (Int × (Int × ((List UInt8) × (Bool × ((List UInt8) × (Int × (Int × Unit))))))))) × Unit) := bif decide (x = ([108, 115, 32, 34, 120], ())) then some ((1, (2, (3, (5, ([120], (true, ([108, 115], (1, (0, ()))))))))), ()) else none
theorem ptF13_run (x : ((List UInt8) × Unit)) (y : ((Int × (Int × (Int × (Int × ((List UInt8) × (Bool × ((List UInt8) × (Int × (Int × Unit))))))))) × Unit)) (h : ptF13 x = some y) : runF (envP sgP93) 13 [.str] [((.pair (.int .i64) (.pair (.int .i64) (.pair (.int .i64) (.pair (.int .i64) (.pair .str (.pair .bool (.pair .str (.pair (.int .i64) (.pair (.int .i64) .unit))))))))), false)] x = some y := by
  unfold ptF13 at h
  rw [cond_eq_ite] at h
  split at h
  · rename_i he
    have e := of_decide_eq_true he
    subst e
    cases h
    exact pt13_0
  cases h
theorem sumP13_ok : SumOk Tryz.prog 13 ⟨[.str], [((.pair (.int .i64) (.pair (.int .i64) (.pair (.int .i64) (.pair (.int .i64) (.pair .str (.pair .bool (.pair .str (.pair (.int .i64) (.pair (.int .i64) .unit))))))))), false)], ptF13⟩ := sum_of_run (envP_ok sgP93_ok) (by decide) fun x y h => ptF13_run x y h
noncomputable def sgP13 (g : FuncId) : Option Sum := bif Nat.beq g 13 then some ⟨[.str], [((.pair (.int .i64) (.pair (.int .i64) (.pair (.int .i64) (.pair (.int .i64) (.pair .str (.pair .bool (.pair .str (.pair (.int .i64) (.pair (.int .i64) .unit))))))))), false)], ptF13⟩ else sgP93 g
theorem sgP13_ok : ∀ g s, sgP13 g = some s → SumOk Tryz.prog g s := sg_or sgP93_ok sumP13_ok

/-! ### quillwort/quoting.Encode -/
theorem pt32_0 : runF (envP sgP13) 32 [.str, (.int .i64), .bool] [(.str, false)] (([97, 32, 98], (5, (true, ()))) : ((List UInt8) × Int × Bool × Unit)) = some (([34, 97, 32, 98, 34], ()) : ((List UInt8) × Unit)) := by kernel_rfl
def ptF32 (x : ((List UInt8) × Int × Bool × Unit)) : Option ((List UInt8) × Unit) := bif decide (x = ([97, 32, 98], (5, (true, ())))) then some ([34, 97, 32, 98, 34], ()) else none
theorem ptF32_run (x : ((List UInt8) × Int × Bool × Unit)) (y : ((List UInt8) × Unit)) (h : ptF32 x = some y) : runF (envP sgP13) 32 [.str, (.int .i64), .bool] [(.str, false)] x = some y := by
  unfold ptF32 at h
  rw [cond_eq_ite] at h
  split at h
  · rename_i he
    have e := of_decide_eq_true he
    subst e
    cases h
    exact pt32_0
  cases h
theorem sumP32_ok : SumOk Tryz.prog 32 ⟨[.str, (.int .i64), .bool], [(.str, false)], ptF32⟩ := sum_of_run (envP_ok sgP13_ok) (by decide) fun x y h => ptF32_run x y h
noncomputable def sgP32 (g : FuncId) : Option Sum := bif Nat.beq g 32 then some ⟨[.str, (.int .i64), .bool], [(.str, false)], ptF32⟩ else sgP13 g
theorem sgP32_ok : ∀ g s, sgP32 g = some s → SumOk Tryz.prog g s := sg_or sgP13_ok sumP32_ok

/-! ### quillwort/edit.Make -/
theorem pt11_0 : runF (envP sgP32) 11 [.str, (.int .i64), (.int .i64), .str] [((.pair (.int .i64) (.pair .str (.pair .str .unit))), false), ((.int .i64), false)] (([108, 115, 32, 34, 120], (3, (5, ([34, 97, 32, 98, 34, 32], ())))) : ((List UInt8) × Int × Int × (List UInt8) × Unit)) = some (((3, ([34, 120], ([34, 97, 32, 98, 34, 32], ()))), (0, ())) : ((Int × ((List UInt8) × ((List UInt8) × Unit))) × Int × Unit)) := by kernel_rfl
def ptF11 (x : ((List UInt8) × Int × Int × (List UInt8) × Unit)) : Option ((Int × ((List UInt8) × ((List UInt8) × Unit))) × Int × Unit) := bif decide (x = ([108, 115, 32, 34, 120], (3, (5, ([34, 97, 32, 98, 34, 32], ()))))) then some ((3, ([34, 120], ([34, 97, 32, 98, 34, 32], ()))), (0, ())) else none
theorem ptF11_run (x : ((List UInt8) × Int × Int × (List UInt8) × Unit)) (y : ((Int × ((List UInt8) × ((List UInt8) × Unit))) × Int × Unit)) (h : ptF11 x = some y) : runF (envP sgP32) 11 [.str, (.int .i64), (.int .i64), .str] [((.pair (.int .i64) (.pair .str (.pair .str .unit))), false), ((.int .i64), false)] x = some y := by
  unfold ptF11 at h
  rw [cond_eq_ite] at h
  split at h
  · rename_i he
    have e := of_decide_eq_true he
    subst e
    cases h
    exact pt11_0
  cases h
theorem sumP11_ok : SumOk Tryz.prog 11 ⟨[.str, (.int .i64), (.int .i64), .str], [((.pair (.int .i64) (.pair .str (.pair .str .unit))), false), ((.int .i64), false)], ptF11⟩ := sum_of_run (envP_ok sgP32_ok) (by decide) fun x y h => ptF11_run x y h
noncomputable def sgP11 (g : FuncId) : Option Sum := bif Nat.beq g 11 then some ⟨[.str, (.int .i64), (.int .i64), .str], [((.pair (.int .i64) (.pair .str (.pair .str .unit))), false), ((.int .i64), false)], ptF11⟩ else sgP32 g
theorem sgP11_ok : ∀ g s, sgP11 g = some s → SumOk Tryz.prog g s := sg_or sgP32_ok sumP11_ok

theorem awake_run : runF (envP sgP11) 4 [] [(.bool, false)] () = some (true, ()) := by kernel_rfl
def sumAwake : Sum := ⟨[], [(.bool, false)], fun _ => some (true, ())⟩
theorem sumAwake_ok : SumOk Tryz.prog 4 sumAwake := sum_of_run (envP_ok sgP11_ok) (by decide) fun x y h => by
  cases h
  exact awake_run
end Go.Proofs.YtgcbehapggfhmaaGreatDoor
