/-
  Sums by points; awake.
-/
import Derived.Test.YtipbcgjogddigaaGreatDoorEb
namespace Go.Proofs.YtipbcgjogddigaaGreatDoor
open Go.RowKit
set_option maxRecDepth 100000
set_option linter.unusedVariables false
set_option linter.unusedSimpArgs false

noncomputable def envP (sg : FuncId → Option Sum) : Env := { P := Tryz.prog, T := tt, cl := true, kp := fun _ _ => none, sg := sg, lp := fun _ _ => none, bf := isChk }
theorem envP_ok {sg : FuncId → Option Sum} (h : ∀ g s, sg g = some s → SumOk Tryz.prog g s) : EnvOk (envP sg) := ⟨tok, mixed, noGor, h, fun f fn c _ _ => loopsOk_none (fun _ => rfl) (fun _ => rfl) c, rf_ok _ fun f fn c _ _ => loopsOk_none (fun _ => rfl) (fun _ => rfl) c, chk_ok, fun _ _ h => by cases h⟩
theorem sg_or {sg : FuncId → Option Sum} (h : ∀ g s, sg g = some s → SumOk Tryz.prog g s) {f : FuncId} {s0 : Sum} (h0 : SumOk Tryz.prog f s0) : ∀ g s, (bif Nat.beq g f then some s0 else sg g) = some s → SumOk Tryz.prog g s := fun g s e => by
  rw [cond_eq_ite] at e
  split at e
  · rename_i hg
    obtain rfl : g = f := Nat.eq_of_beq_eq_true hg
    cases e
    exact h0
  · exact h g s e

/-! ### quillwort/rules.word -/
theorem pt115_0 : runF (envP sg2) 115 [.str] [((.int .u8), false)] (([105, 102], ()) : ((List UInt8) × Unit)) = some ((105, ()) : (Int × Unit)) := by kernel_rfl
theorem pt115_1 : runF (envP sg2) 115 [.str] [((.int .u8), false)] (([97], ()) : ((List UInt8) × Unit)) = some ((120, ()) : (Int × Unit)) := by kernel_rfl
def ptF115 (x : ((List UInt8) × Unit)) : Option (Int × Unit) := bif decide (x = ([105, 102], ())) then some (105, ()) else bif decide (x = ([97], ())) then some (120, ()) else none
theorem ptF115_run (x : ((List UInt8) × Unit)) (y : (Int × Unit)) (h : ptF115 x = some y) : runF (envP sg2) 115 [.str] [((.int .u8), false)] x = some y := by
  unfold ptF115 at h
  rw [cond_eq_ite] at h
  split at h
  · rename_i he
    have e := of_decide_eq_true he
    subst e
    cases h
    exact pt115_0
  rw [cond_eq_ite] at h
  split at h
  · rename_i he
    have e := of_decide_eq_true he
    subst e
    cases h
    exact pt115_1
  cases h
theorem sumP115_ok : SumOk Tryz.prog 115 ⟨[.str], [((.int .u8), false)], ptF115⟩ := sum_of_run (envP_ok sg2_ok) (by decide) fun x y h => ptF115_run x y h
noncomputable def sgP115 (g : FuncId) : Option Sum := bif Nat.beq g 115 then some ⟨[.str], [((.int .u8), false)], ptF115⟩ else sg2 g
theorem sgP115_ok : ∀ g s, sgP115 g = some s → SumOk Tryz.prog g s := sg_or sg2_ok sumP115_ok

/-! ### quillwort/rules.Sign -/
theorem pt93_0 : runF (envP sgP115) 93 [(.pair (.int .i64) (.pair .str (.pair (.int .i64) (.pair (.int .i64) .unit))))] [((.int .u8), false)] (((6, ([105, 102], (0, (2, ())))), ()) : ((Int × ((List UInt8) × (Int × (Int × Unit)))) × Unit)) = some ((105, ()) : (Int × Unit)) := by kernel_rfl
theorem pt93_1 : runF (envP sgP115) 93 [(.pair (.int .i64) (.pair .str (.pair (.int .i64) (.pair (.int .i64) .unit))))] [((.int .u8), false)] (((6, ([97], (3, (4, ())))), ()) : ((Int × ((List UInt8) × (Int × (Int × Unit)))) × Unit)) = some ((120, ()) : (Int × Unit)) := by kernel_rfl
def ptF93 (x : ((Int × ((List UInt8) × (Int × (Int × Unit)))) × Unit)) : Option (Int × Unit) := bif decide (x = ((6, ([105, 102], (0, (2, ())))), ())) then some (105, ()) else bif decide (x = ((6, ([97], (3, (4, ())))), ())) then some (120, ()) else none
theorem ptF93_run (x : ((Int × ((List UInt8) × (Int × (Int × Unit)))) × Unit)) (y : (Int × Unit)) (h : ptF93 x = some y) : runF (envP sgP115) 93 [(.pair (.int .i64) (.pair .str (.pair (.int .i64) (.pair (.int .i64) .unit))))] [((.int .u8), false)] x = some y := by
  unfold ptF93 at h
  rw [cond_eq_ite] at h
  split at h
  · rename_i he
    have e := of_decide_eq_true he
    subst e
    cases h
    exact pt93_0
  rw [cond_eq_ite] at h
  split at h
  · rename_i he
    have e := of_decide_eq_true he
    subst e
    cases h
    exact pt93_1
  cases h
theorem sumP93_ok : SumOk Tryz.prog 93 ⟨[(.pair (.int .i64) (.pair .str (.pair (.int .i64) (.pair (.int .i64) .unit))))], [((.int .u8), false)], ptF93⟩ := sum_of_run (envP_ok sgP115_ok) (by decide) fun x y h => ptF93_run x y h
noncomputable def sgP93 (g : FuncId) : Option Sum := bif Nat.beq g 93 then some ⟨[(.pair (.int .i64) (.pair .str (.pair (.int .i64) (.pair (.int .i64) .unit))))], [((.int .u8), false)], ptF93⟩ else sgP115 g
theorem sgP93_ok : ∀ g s, sgP93 g = some s → SumOk Tryz.prog g s := sg_or sgP115_ok sumP93_ok

/-! ### quillwort/class.Of -/
theorem pt83_0 : runF (envP sgP93) 83 [(.int .u8)] [((.int .i64), false)] ((105, ()) : (Int × Unit)) = some ((5, ()) : (Int × Unit)) := by kernel_rfl
theorem pt83_1 : runF (envP sgP93) 83 [(.int .u8)] [((.int .i64), false)] ((102, ()) : (Int × Unit)) = some ((5, ()) : (Int × Unit)) := by kernel_rfl
theorem pt83_2 : runF (envP sgP93) 83 [(.int .u8)] [((.int .i64), false)] ((32, ()) : (Int × Unit)) = some ((1, ()) : (Int × Unit)) := by kernel_rfl
theorem pt83_3 : runF (envP sgP93) 83 [(.int .u8)] [((.int .i64), false)] ((97, ()) : (Int × Unit)) = some ((5, ()) : (Int × Unit)) := by kernel_rfl
def ptF83 (x : (Int × Unit)) : Option (Int × Unit) := bif decide (x = (105, ())) then some (5, ()) else bif decide (x = (102, ())) then some (5, ()) else bif decide (x = (32, ())) then some (1, ()) else bif decide (x = (97, ())) then some (5, ()) else none
theorem ptF83_run (x : (Int × Unit)) (y : (Int × Unit)) (h : ptF83 x = some y) : runF (envP sgP93) 83 [(.int .u8)] [((.int .i64), false)] x = some y := by
  unfold ptF83 at h
  rw [cond_eq_ite] at h
  split at h
  · rename_i he
    have e := of_decide_eq_true he
    subst e
    cases h
    exact pt83_0
  rw [cond_eq_ite] at h
  split at h
  · rename_i he
    have e := of_decide_eq_true he
    subst e
    cases h
    exact pt83_1
  rw [cond_eq_ite] at h
  split at h
  · rename_i he
    have e := of_decide_eq_true he
    subst e
    cases h
    exact pt83_2
  rw [cond_eq_ite] at h
  split at h
  · rename_i he
    have e := of_decide_eq_true he
    subst e
    cases h
    exact pt83_3
  cases h
theorem sumP83_ok : SumOk Tryz.prog 83 ⟨[(.int .u8)], [((.int .i64), false)], ptF83⟩ := sum_of_run (envP_ok sgP93_ok) (by decide) fun x y h => ptF83_run x y h
noncomputable def sgP83 (g : FuncId) : Option Sum := bif Nat.beq g 83 then some ⟨[(.int .u8)], [((.int .i64), false)], ptF83⟩ else sgP93 g
theorem sgP83_ok : ∀ g s, sgP83 g = some s → SumOk Tryz.prog g s := sg_or sgP93_ok sumP83_ok

/-! ### quillwort/class.Ends -/
theorem pt131_0 : runF (envP sgP83) 131 [(.int .u8)] [(.bool, false)] ((105, ()) : (Int × Unit)) = some ((false, ()) : (Bool × Unit)) := by kernel_rfl
theorem pt131_1 : runF (envP sgP83) 131 [(.int .u8)] [(.bool, false)] ((102, ()) : (Int × Unit)) = some ((false, ()) : (Bool × Unit)) := by kernel_rfl
theorem pt131_2 : runF (envP sgP83) 131 [(.int .u8)] [(.bool, false)] ((32, ()) : (Int × Unit)) = some ((true, ()) : (Bool × Unit)) := by kernel_rfl
theorem pt131_3 : runF (envP sgP83) 131 [(.int .u8)] [(.bool, false)] ((97, ()) : (Int × Unit)) = some ((false, ()) : (Bool × Unit)) := by kernel_rfl
def ptF131 (x : (Int × Unit)) : Option (Bool × Unit) := bif decide (x = (105, ())) then some (false, ()) else bif decide (x = (102, ())) then some (false, ()) else bif decide (x = (32, ())) then some (true, ()) else bif decide (x = (97, ())) then some (false, ()) else none
theorem ptF131_run (x : (Int × Unit)) (y : (Bool × Unit)) (h : ptF131 x = some y) : runF (envP sgP83) 131 [(.int .u8)] [(.bool, false)] x = some y := by
  unfold ptF131 at h
  rw [cond_eq_ite] at h
  split at h
  · rename_i he
    have e := of_decide_eq_true he
    subst e
    cases h
    exact pt131_0
  rw [cond_eq_ite] at h
  split at h
  · rename_i he
    have e := of_decide_eq_true he
    subst e
    cases h
    exact pt131_1
  rw [cond_eq_ite] at h
  split at h
  · rename_i he
    have e := of_decide_eq_true he
    subst e
    cases h
    exact pt131_2
  rw [cond_eq_ite] at h
  split at h
  · rename_i he
    have e := of_decide_eq_true he
    subst e
    cases h
    exact pt131_3
  cases h
theorem sumP131_ok : SumOk Tryz.prog 131 ⟨[(.int .u8)], [(.bool, false)], ptF131⟩ := sum_of_run (envP_ok sgP83_ok) (by decide) fun x y h => ptF131_run x y h
noncomputable def sgP131 (g : FuncId) : Option Sum := bif Nat.beq g 131 then some ⟨[(.int .u8)], [(.bool, false)], ptF131⟩ else sgP83 g
theorem sgP131_ok : ∀ g s, sgP131 g = some s → SumOk Tryz.prog g s := sg_or sgP83_ok sumP131_ok

/-! ### internal/stringslite.IndexByte -/
theorem pt113_0 : runF (envP sgP131) 113 [.str, (.int .u8)] [((.int .i64), false)] (([110], (105, ())) : ((List UInt8) × Int × Unit)) = some (((-1), ()) : (Int × Unit)) := by kernel_rfl
theorem pt113_1 : runF (envP sgP131) 113 [.str, (.int .u8)] [((.int .i64), false)] (([123, 40, 105, 119, 114, 99], (105, ())) : ((List UInt8) × Int × Unit)) = some ((2, ()) : (Int × Unit)) := by kernel_rfl
theorem pt113_2 : runF (envP sgP131) 113 [.str, (.int .u8)] [((.int .i64), false)] (([33], (105, ())) : ((List UInt8) × Int × Unit)) = some (((-1), ()) : (Int × Unit)) := by kernel_rfl
theorem pt113_3 : runF (envP sgP131) 113 [.str, (.int .u8)] [((.int .i64), false)] (([110], (120, ())) : ((List UInt8) × Int × Unit)) = some (((-1), ()) : (Int × Unit)) := by kernel_rfl
theorem pt113_4 : runF (envP sgP131) 113 [.str, (.int .u8)] [((.int .i64), false)] (([33], (120, ())) : ((List UInt8) × Int × Unit)) = some (((-1), ()) : (Int × Unit)) := by kernel_rfl
theorem pt113_5 : runF (envP sgP131) 113 [.str, (.int .u8)] [((.int .i64), false)] (([123, 40, 105, 119, 114, 99], (120, ())) : ((List UInt8) × Int × Unit)) = some (((-1), ()) : (Int × Unit)) := by kernel_rfl
def ptF113 (x : ((List UInt8) × Int × Unit)) : Option (Int × Unit) := bif decide (x = ([110], (105, ()))) then some ((-1), ()) else bif decide (x = ([123, 40, 105, 119, 114, 99], (105, ()))) then some (2, ()) else bif decide (x = ([33], (105, ()))) then some ((-1), ()) else bif decide (x = ([110], (120, ()))) then some ((-1), ()) else bif decide (x = ([33], (120, ()))) then some ((-1), ()) else bif decide (x = ([123, 40, 105, 119, 114, 99], (120, ()))) then some ((-1), ()) else none
theorem ptF113_run (x : ((List UInt8) × Int × Unit)) (y : (Int × Unit)) (h : ptF113 x = some y) : runF (envP sgP131) 113 [.str, (.int .u8)] [((.int .i64), false)] x = some y := by
  unfold ptF113 at h
  rw [cond_eq_ite] at h
  split at h
  · rename_i he
    have e := of_decide_eq_true he
    subst e
    cases h
    exact pt113_0
  rw [cond_eq_ite] at h
  split at h
  · rename_i he
    have e := of_decide_eq_true he
    subst e
    cases h
    exact pt113_1
  rw [cond_eq_ite] at h
  split at h
  · rename_i he
    have e := of_decide_eq_true he
    subst e
    cases h
    exact pt113_2
  rw [cond_eq_ite] at h
  split at h
  · rename_i he
    have e := of_decide_eq_true he
    subst e
    cases h
    exact pt113_3
  rw [cond_eq_ite] at h
  split at h
  · rename_i he
    have e := of_decide_eq_true he
    subst e
    cases h
    exact pt113_4
  rw [cond_eq_ite] at h
  split at h
  · rename_i he
    have e := of_decide_eq_true he
    subst e
    cases h
    exact pt113_5
  cases h
theorem sumP113_ok : SumOk Tryz.prog 113 ⟨[.str, (.int .u8)], [((.int .i64), false)], ptF113⟩ := sum_of_run (envP_ok sgP131_ok) (by decide) fun x y h => ptF113_run x y h
noncomputable def sgP113 (g : FuncId) : Option Sum := bif Nat.beq g 113 then some ⟨[.str, (.int .u8)], [((.int .i64), false)], ptF113⟩ else sgP131 g
theorem sgP113_ok : ∀ g s, sgP113 g = some s → SumOk Tryz.prog g s := sg_or sgP131_ok sumP113_ok

/-! ### strings.IndexByte -/
theorem pt92_0 : runF (envP sgP113) 92 [.str, (.int .u8)] [((.int .i64), false)] (([110], (105, ())) : ((List UInt8) × Int × Unit)) = some (((-1), ()) : (Int × Unit)) := by kernel_rfl
theorem pt92_1 : runF (envP sgP113) 92 [.str, (.int .u8)] [((.int .i64), false)] (([123, 40, 105, 119, 114, 99], (105, ())) : ((List UInt8) × Int × Unit)) = some ((2, ()) : (Int × Unit)) := by kernel_rfl
theorem pt92_2 : runF (envP sgP113) 92 [.str, (.int .u8)] [((.int .i64), false)] (([33], (105, ())) : ((List UInt8) × Int × Unit)) = some (((-1), ()) : (Int × Unit)) := by kernel_rfl
theorem pt92_3 : runF (envP sgP113) 92 [.str, (.int .u8)] [((.int .i64), false)] (([110], (120, ())) : ((List UInt8) × Int × Unit)) = some (((-1), ()) : (Int × Unit)) := by kernel_rfl
theorem pt92_4 : runF (envP sgP113) 92 [.str, (.int .u8)] [((.int .i64), false)] (([33], (120, ())) : ((List UInt8) × Int × Unit)) = some (((-1), ()) : (Int × Unit)) := by kernel_rfl
theorem pt92_5 : runF (envP sgP113) 92 [.str, (.int .u8)] [((.int .i64), false)] (([123, 40, 105, 119, 114, 99], (120, ())) : ((List UInt8) × Int × Unit)) = some (((-1), ()) : (Int × Unit)) := by kernel_rfl
def ptF92 (x : ((List UInt8) × Int × Unit)) : Option (Int × Unit) := bif decide (x = ([110], (105, ()))) then some ((-1), ()) else bif decide (x = ([123, 40, 105, 119, 114, 99], (105, ()))) then some (2, ()) else bif decide (x = ([33], (105, ()))) then some ((-1), ()) else bif decide (x = ([110], (120, ()))) then some ((-1), ()) else bif decide (x = ([33], (120, ()))) then some ((-1), ()) else bif decide (x = ([123, 40, 105, 119, 114, 99], (120, ()))) then some ((-1), ()) else none
theorem ptF92_run (x : ((List UInt8) × Int × Unit)) (y : (Int × Unit)) (h : ptF92 x = some y) : runF (envP sgP113) 92 [.str, (.int .u8)] [((.int .i64), false)] x = some y := by
  unfold ptF92 at h
  rw [cond_eq_ite] at h
  split at h
  · rename_i he
    have e := of_decide_eq_true he
    subst e
    cases h
    exact pt92_0
  rw [cond_eq_ite] at h
  split at h
  · rename_i he
    have e := of_decide_eq_true he
    subst e
    cases h
    exact pt92_1
  rw [cond_eq_ite] at h
  split at h
  · rename_i he
    have e := of_decide_eq_true he
    subst e
    cases h
    exact pt92_2
  rw [cond_eq_ite] at h
  split at h
  · rename_i he
    have e := of_decide_eq_true he
    subst e
    cases h
    exact pt92_3
  rw [cond_eq_ite] at h
  split at h
  · rename_i he
    have e := of_decide_eq_true he
    subst e
    cases h
    exact pt92_4
  rw [cond_eq_ite] at h
  split at h
  · rename_i he
    have e := of_decide_eq_true he
    subst e
    cases h
    exact pt92_5
  cases h
theorem sumP92_ok : SumOk Tryz.prog 92 ⟨[.str, (.int .u8)], [((.int .i64), false)], ptF92⟩ := sum_of_run (envP_ok sgP113_ok) (by decide) fun x y h => ptF92_run x y h
noncomputable def sgP92 (g : FuncId) : Option Sum := bif Nat.beq g 92 then some ⟨[.str, (.int .u8)], [((.int .i64), false)], ptF92⟩ else sgP113 g
theorem sgP92_ok : ∀ g s, sgP92 g = some s → SumOk Tryz.prog g s := sg_or sgP113_ok sumP92_ok

/-! ### quillwort/modes.Run -/
theorem pt107_0 : runF (envP sgP92) 107 [.str] [((.list (.pair (.int .i64) (.pair (.int .i64) .unit))), false), (.bool, false)] (([105, 102], ()) : ((List UInt8) × Unit)) = some (([(0, (0, ()))], (false, ())) : ((List (Int × (Int × Unit))) × Bool × Unit)) := by kernel_rfl
theorem pt107_1 : runF (envP sgP92) 107 [.str] [((.list (.pair (.int .i64) (.pair (.int .i64) .unit))), false), (.bool, false)] (([97], ()) : ((List UInt8) × Unit)) = some (([(0, (0, ()))], (false, ())) : ((List (Int × (Int × Unit))) × Bool × Unit)) := by kernel_rfl
def ptF107 (x : ((List UInt8) × Unit)) : Option ((List (Int × (Int × Unit))) × Bool × Unit) := bif decide (x = ([105, 102], ())) then some ([(0, (0, ()))], (false, ())) else bif decide (x = ([97], ())) then some ([(0, (0, ()))], (false, ())) else none
theorem ptF107_run (x : ((List UInt8) × Unit)) (y : ((List (Int × (Int × Unit))) × Bool × Unit)) (h : ptF107 x = some y) : runF (envP sgP92) 107 [.str] [((.list (.pair (.int .i64) (.pair (.int .i64) .unit))), false), (.bool, false)] x = some y := by
  unfold ptF107 at h
  rw [cond_eq_ite] at h
  split at h
  · rename_i he
    have e := of_decide_eq_true he
    subst e
    cases h
    exact pt107_0
  rw [cond_eq_ite] at h
  split at h
  · rename_i he
    have e := of_decide_eq_true he
    subst e
    cases h
    exact pt107_1
  cases h
theorem sumP107_ok : SumOk Tryz.prog 107 ⟨[.str], [((.list (.pair (.int .i64) (.pair (.int .i64) .unit))), false), (.bool, false)], ptF107⟩ := sum_of_run (envP_ok sgP92_ok) (by decide) fun x y h => ptF107_run x y h
noncomputable def sgP107 (g : FuncId) : Option Sum := bif Nat.beq g 107 then some ⟨[.str], [((.list (.pair (.int .i64) (.pair (.int .i64) .unit))), false), (.bool, false)], ptF107⟩ else sgP92 g
theorem sgP107_ok : ∀ g s, sgP107 g = some s → SumOk Tryz.prog g s := sg_or sgP92_ok sumP107_ok

/-! ### quillwort/oper.At -/
theorem pt82_0 : runF (envP sgP107) 82 [.str, (.int .i64)] [((.int .i64), false), ((.int .i64), false)] (([105, 102, 32, 97], (0, ())) : ((List UInt8) × Int × Unit)) = some ((0, (0, ())) : (Int × Int × Unit)) := by kernel_rfl
theorem pt82_1 : runF (envP sgP107) 82 [.str, (.int .i64)] [((.int .i64), false), ((.int .i64), false)] (([105, 102, 32, 97], (2, ())) : ((List UInt8) × Int × Unit)) = some ((0, (0, ())) : (Int × Int × Unit)) := by kernel_rfl
theorem pt82_2 : runF (envP sgP107) 82 [.str, (.int .i64)] [((.int .i64), false), ((.int .i64), false)] (([105, 102, 32, 97], (3, ())) : ((List UInt8) × Int × Unit)) = some ((0, (0, ())) : (Int × Int × Unit)) := by kernel_rfl
def ptF82 (x : ((List UInt8) × Int × Unit)) : Option (Int × Int × Unit) := bif decide (x = ([105, 102, 32, 97], (0, ()))) then some (0, (0, ())) else bif decide (x = ([105, 102, 32, 97], (2, ()))) then some (0, (0, ())) else bif decide (x = ([105, 102, 32, 97], (3, ()))) then some (0, (0, ())) else none
theorem ptF82_run (x : ((List UInt8) × Int × Unit)) (y : (Int × Int × Unit)) (h : ptF82 x = some y) : runF (envP sgP107) 82 [.str, (.int .i64)] [((.int .i64), false), ((.int .i64), false)] x = some y := by
  unfold ptF82 at h
  rw [cond_eq_ite] at h
  split at h
  · rename_i he
    have e := of_decide_eq_true he
    subst e
    cases h
    exact pt82_0
  rw [cond_eq_ite] at h
  split at h
  · rename_i he
    have e := of_decide_eq_true he
    subst e
    cases h
    exact pt82_1
  rw [cond_eq_ite] at h
  split at h
  · rename_i he
    have e := of_decide_eq_true he
    subst e
    cases h
    exact pt82_2
  cases h
theorem sumP82_ok : SumOk Tryz.prog 82 ⟨[.str, (.int .i64)], [((.int .i64), false), ((.int .i64), false)], ptF82⟩ := sum_of_run (envP_ok sgP107_ok) (by decide) fun x y h => ptF82_run x y h
noncomputable def sgP82 (g : FuncId) : Option Sum := bif Nat.beq g 82 then some ⟨[.str, (.int .i64)], [((.int .i64), false), ((.int .i64), false)], ptF82⟩ else sgP107 g
theorem sgP82_ok : ∀ g s, sgP82 g = some s → SumOk Tryz.prog g s := sg_or sgP107_ok sumP82_ok

/-! ### strings.HasPrefix -/
theorem pt103_0 : runF (envP sgP82) 103 [.str, .str] [(.bool, false)] (([105, 102, 32, 97], ([92, 10], ())) : ((List UInt8) × (List UInt8) × Unit)) = some ((false, ()) : (Bool × Unit)) := by kernel_rfl
theorem pt103_1 : runF (envP sgP82) 103 [.str, .str] [(.bool, false)] (([97], ([92, 10], ())) : ((List UInt8) × (List UInt8) × Unit)) = some ((false, ()) : (Bool × Unit)) := by kernel_rfl
def ptF103 (x : ((List UInt8) × (List UInt8) × Unit)) : Option (Bool × Unit) := bif decide (x = ([105, 102, 32, 97], ([92, 10], ()))) then some (false, ()) else bif decide (x = ([97], ([92, 10], ()))) then some (false, ()) else none
theorem ptF103_run (x : ((List UInt8) × (List UInt8) × Unit)) (y : (Bool × Unit)) (h : ptF103 x = some y) : runF (envP sgP82) 103 [.str, .str] [(.bool, false)] x = some y := by
  unfold ptF103 at h
  rw [cond_eq_ite] at h
  split at h
  · rename_i he
    have e := of_decide_eq_true he
    subst e
    cases h
    exact pt103_0
  rw [cond_eq_ite] at h
  split at h
  · rename_i he
    have e := of_decide_eq_true he
    subst e
    cases h
    exact pt103_1
  cases h
theorem sumP103_ok : SumOk Tryz.prog 103 ⟨[.str, .str], [(.bool, false)], ptF103⟩ := sum_of_run (envP_ok sgP82_ok) (by decide) fun x y h => ptF103_run x y h
noncomputable def sgP103 (g : FuncId) : Option Sum := bif Nat.beq g 103 then some ⟨[.str, .str], [(.bool, false)], ptF103⟩ else sgP82 g
theorem sgP103_ok : ∀ g s, sgP103 g = some s → SumOk Tryz.prog g s := sg_or sgP82_ok sumP103_ok

/-! ### quillwort/token.continued -/
theorem pt84_0 : runF (envP sgP103) 84 [.str, (.int .i64)] [(.bool, false)] (([105, 102, 32, 97], (0, ())) : ((List UInt8) × Int × Unit)) = some ((false, ()) : (Bool × Unit)) := by kernel_rfl
theorem pt84_1 : runF (envP sgP103) 84 [.str, (.int .i64)] [(.bool, false)] (([105, 102, 32, 97], (3, ())) : ((List UInt8) × Int × Unit)) = some ((false, ()) : (Bool × Unit)) := by kernel_rfl
def ptF84 (x : ((List UInt8) × Int × Unit)) : Option (Bool × Unit) := bif decide (x = ([105, 102, 32, 97], (0, ()))) then some (false, ()) else bif decide (x = ([105, 102, 32, 97], (3, ()))) then some (false, ()) else none
theorem ptF84_run (x : ((List UInt8) × Int × Unit)) (y : (Bool × Unit)) (h : ptF84 x = some y) : runF (envP sgP103) 84 [.str, (.int .i64)] [(.bool, false)] x = some y := by
  unfold ptF84 at h
  rw [cond_eq_ite] at h
  split at h
  · rename_i he
    have e := of_decide_eq_true he
    subst e
    cases h
    exact pt84_0
  rw [cond_eq_ite] at h
  split at h
  · rename_i he
    have e := of_decide_eq_true he
    subst e
    cases h
    exact pt84_1
  cases h
theorem sumP84_ok : SumOk Tryz.prog 84 ⟨[.str, (.int .i64)], [(.bool, false)], ptF84⟩ := sum_of_run (envP_ok sgP103_ok) (by decide) fun x y h => ptF84_run x y h
noncomputable def sgP84 (g : FuncId) : Option Sum := bif Nat.beq g 84 then some ⟨[.str, (.int .i64)], [(.bool, false)], ptF84⟩ else sgP103 g
theorem sgP84_ok : ∀ g s, sgP84 g = some s → SumOk Tryz.prog g s := sg_or sgP103_ok sumP84_ok

/-! ### quillwort/token.blank -/
theorem pt85_0 : runF (envP sgP84) 85 [.str, (.int .i64)] [((.int .i64), false)] (([105, 102, 32, 97], (2, ())) : ((List UInt8) × Int × Unit)) = some ((3, ()) : (Int × Unit)) := by kernel_rfl
def ptF85 (x : ((List UInt8) × Int × Unit)) : Option (Int × Unit) := bif decide (x = ([105, 102, 32, 97], (2, ()))) then some (3, ()) else none
theorem ptF85_run (x : ((List UInt8) × Int × Unit)) (y : (Int × Unit)) (h : ptF85 x = some y) : runF (envP sgP84) 85 [.str, (.int .i64)] [((.int .i64), false)] x = some y := by
  unfold ptF85 at h
  rw [cond_eq_ite] at h
  split at h
  · rename_i he
    have e := of_decide_eq_true he
    subst e
    cases h
    exact pt85_0
  cases h
theorem sumP85_ok : SumOk Tryz.prog 85 ⟨[.str, (.int .i64)], [((.int .i64), false)], ptF85⟩ := sum_of_run (envP_ok sgP84_ok) (by decide) fun x y h => ptF85_run x y h
noncomputable def sgP85 (g : FuncId) : Option Sum := bif Nat.beq g 85 then some ⟨[.str, (.int .i64)], [((.int .i64), false)], ptF85⟩ else sgP84 g
theorem sgP85_ok : ∀ g s, sgP85 g = some s → SumOk Tryz.prog g s := sg_or sgP84_ok sumP85_ok

/-! ### quillwort/class.Digits -/
theorem pt99_0 : runF (envP sgP85) 99 [.str, (.int .i64)] [((.int .i64), false)] (([105, 102, 32, 97], (0, ())) : ((List UInt8) × Int × Unit)) = some ((0, ()) : (Int × Unit)) := by kernel_rfl
theorem pt99_1 : runF (envP sgP85) 99 [.str, (.int .i64)] [((.int .i64), false)] (([105, 102, 32, 97], (3, ())) : ((List UInt8) × Int × Unit)) = some ((0, ()) : (Int × Unit)) := by kernel_rfl
def ptF99 (x : ((List UInt8) × Int × Unit)) : Option (Int × Unit) := bif decide (x = ([105, 102, 32, 97], (0, ()))) then some (0, ()) else bif decide (x = ([105, 102, 32, 97], (3, ()))) then some (0, ()) else none
theorem ptF99_run (x : ((List UInt8) × Int × Unit)) (y : (Int × Unit)) (h : ptF99 x = some y) : runF (envP sgP85) 99 [.str, (.int .i64)] [((.int .i64), false)] x = some y := by
  unfold ptF99 at h
  rw [cond_eq_ite] at h
  split at h
  · rename_i he
    have e := of_decide_eq_true he
    subst e
    cases h
    exact pt99_0
  rw [cond_eq_ite] at h
  split at h
  · rename_i he
    have e := of_decide_eq_true he
    subst e
    cases h
    exact pt99_1
  cases h
theorem sumP99_ok : SumOk Tryz.prog 99 ⟨[.str, (.int .i64)], [((.int .i64), false)], ptF99⟩ := sum_of_run (envP_ok sgP85_ok) (by decide) fun x y h => ptF99_run x y h
noncomputable def sgP99 (g : FuncId) : Option Sum := bif Nat.beq g 99 then some ⟨[.str, (.int .i64)], [((.int .i64), false)], ptF99⟩ else sgP85 g
theorem sgP99_ok : ∀ g s, sgP99 g = some s → SumOk Tryz.prog g s := sg_or sgP85_ok sumP99_ok

/-! ### quillwort/token.number -/
theorem pt87_0 : runF (envP sgP99) 87 [.str, (.int .i64)] [((.int .i64), false)] (([105, 102, 32, 97], (0, ())) : ((List UInt8) × Int × Unit)) = some ((0, ()) : (Int × Unit)) := by kernel_rfl
theorem pt87_1 : runF (envP sgP99) 87 [.str, (.int .i64)] [((.int .i64), false)] (([105, 102, 32, 97], (3, ())) : ((List UInt8) × Int × Unit)) = some ((3, ()) : (Int × Unit)) := by kernel_rfl
def ptF87 (x : ((List UInt8) × Int × Unit)) : Option (Int × Unit) := bif decide (x = ([105, 102, 32, 97], (0, ()))) then some (0, ()) else bif decide (x = ([105, 102, 32, 97], (3, ()))) then some (3, ()) else none
theorem ptF87_run (x : ((List UInt8) × Int × Unit)) (y : (Int × Unit)) (h : ptF87 x = some y) : runF (envP sgP99) 87 [.str, (.int .i64)] [((.int .i64), false)] x = some y := by
  unfold ptF87 at h
  rw [cond_eq_ite] at h
  split at h
  · rename_i he
    have e := of_decide_eq_true he
    subst e
    cases h
    exact pt87_0
  rw [cond_eq_ite] at h
  split at h
  · rename_i he
    have e := of_decide_eq_true he
    subst e
    cases h
    exact pt87_1
  cases h
theorem sumP87_ok : SumOk Tryz.prog 87 ⟨[.str, (.int .i64)], [((.int .i64), false)], ptF87⟩ := sum_of_run (envP_ok sgP99_ok) (by decide) fun x y h => ptF87_run x y h
noncomputable def sgP87 (g : FuncId) : Option Sum := bif Nat.beq g 87 then some ⟨[.str, (.int .i64)], [((.int .i64), false)], ptF87⟩ else sgP99 g
theorem sgP87_ok : ∀ g s, sgP87 g = some s → SumOk Tryz.prog g s := sg_or sgP99_ok sumP87_ok

/-! ### quillwort/modes.End -/
theorem pt88_0 : runF (envP sgP87) 88 [.str, (.int .i64)] [((.int .i64), false)] (([105, 102, 32, 97], (0, ())) : ((List UInt8) × Int × Unit)) = some ((2, ()) : (Int × Unit)) := by kernel_rfl
theorem pt88_1 : runF (envP sgP87) 88 [.str, (.int .i64)] [((.int .i64), false)] (([105, 102, 32, 97], (3, ())) : ((List UInt8) × Int × Unit)) = some ((4, ()) : (Int × Unit)) := by kernel_rfl
def ptF88 (x : ((List UInt8) × Int × Unit)) : Option (Int × Unit) := bif decide (x = ([105, 102, 32, 97], (0, ()))) then some (2, ()) else bif decide (x = ([105, 102, 32, 97], (3, ()))) then some (4, ()) else none
theorem ptF88_run (x : ((List UInt8) × Int × Unit)) (y : (Int × Unit)) (h : ptF88 x = some y) : runF (envP sgP87) 88 [.str, (.int .i64)] [((.int .i64), false)] x = some y := by
  unfold ptF88 at h
  rw [cond_eq_ite] at h
  split at h
  · rename_i he
    have e := of_decide_eq_true he
    subst e
    cases h
    exact pt88_0
  rw [cond_eq_ite] at h
  split at h
  · rename_i he
    have e := of_decide_eq_true he
    subst e
    cases h
    exact pt88_1
  cases h
theorem sumP88_ok : SumOk Tryz.prog 88 ⟨[.str, (.int .i64)], [((.int .i64), false)], ptF88⟩ := sum_of_run (envP_ok sgP87_ok) (by decide) fun x y h => ptF88_run x y h
noncomputable def sgP88 (g : FuncId) : Option Sum := bif Nat.beq g 88 then some ⟨[.str, (.int .i64)], [((.int .i64), false)], ptF88⟩ else sgP87 g
theorem sgP88_ok : ∀ g s, sgP88 g = some s → SumOk Tryz.prog g s := sg_or sgP87_ok sumP88_ok

/-! ### quillwort/modes.closer -/
theorem pt109_0 : runF (envP sgP88) 109 [(.int .i64)] [(.str, false)] ((0, ()) : (Int × Unit)) = some (([], ()) : ((List UInt8) × Unit)) := by kernel_rfl
def ptF109 (x : (Int × Unit)) : Option ((List UInt8) × Unit) := bif decide (x = (0, ())) then some ([], ()) else none
theorem ptF109_run (x : (Int × Unit)) (y : ((List UInt8) × Unit)) (h : ptF109 x = some y) : runF (envP sgP88) 109 [(.int .i64)] [(.str, false)] x = some y := by
  unfold ptF109 at h
  rw [cond_eq_ite] at h
  split at h
  · rename_i he
    have e := of_decide_eq_true he
    subst e
    cases h
    exact pt109_0
  cases h
theorem sumP109_ok : SumOk Tryz.prog 109 ⟨[(.int .i64)], [(.str, false)], ptF109⟩ := sum_of_run (envP_ok sgP88_ok) (by decide) fun x y h => ptF109_run x y h
noncomputable def sgP109 (g : FuncId) : Option Sum := bif Nat.beq g 109 then some ⟨[(.int .i64)], [(.str, false)], ptF109⟩ else sgP88 g
theorem sgP109_ok : ∀ g s, sgP109 g = some s → SumOk Tryz.prog g s := sg_or sgP88_ok sumP109_ok

/-! ### quillwort/modes.Closing -/
theorem pt89_0 : runF (envP sgP109) 89 [.str] [(.str, false)] (([105, 102], ()) : ((List UInt8) × Unit)) = some (([], ()) : ((List UInt8) × Unit)) := by kernel_rfl
theorem pt89_1 : runF (envP sgP109) 89 [.str] [(.str, false)] (([97], ()) : ((List UInt8) × Unit)) = some (([], ()) : ((List UInt8) × Unit)) := by kernel_rfl
def ptF89 (x : ((List UInt8) × Unit)) : Option ((List UInt8) × Unit) := bif decide (x = ([105, 102], ())) then some ([], ()) else bif decide (x = ([97], ())) then some ([], ()) else none
theorem ptF89_run (x : ((List UInt8) × Unit)) (y : ((List UInt8) × Unit)) (h : ptF89 x = some y) : runF (envP sgP109) 89 [.str] [(.str, false)] x = some y := by
  unfold ptF89 at h
  rw [cond_eq_ite] at h
  split at h
  · rename_i he
    have e := of_decide_eq_true he
    subst e
    cases h
    exact pt89_0
  rw [cond_eq_ite] at h
  split at h
  · rename_i he
    have e := of_decide_eq_true he
    subst e
    cases h
    exact pt89_1
  cases h
theorem sumP89_ok : SumOk Tryz.prog 89 ⟨[.str], [(.str, false)], ptF89⟩ := sum_of_run (envP_ok sgP109_ok) (by decide) fun x y h => ptF89_run x y h
noncomputable def sgP89 (g : FuncId) : Option Sum := bif Nat.beq g 89 then some ⟨[.str], [(.str, false)], ptF89⟩ else sgP109 g
theorem sgP89_ok : ∀ g s, sgP89 g = some s → SumOk Tryz.prog g s := sg_or sgP109_ok sumP89_ok

/-! ### quillwort/token.plain -/
theorem pt62_0 : runF (envP sgP89) 62 [.str, (.int .i64)] [((.pair (.int .i64) (.pair (.int .i64) (.pair (.int .i64) (.pair .bool .unit)))), false)] (([105, 102, 32, 97], (0, ())) : ((List UInt8) × Int × Unit)) = some (((6, (0, (2, (false, ())))), ()) : ((Int × (Int × (Int × (Bool × Unit)))) × Unit)) := by kernel_rfl
theorem pt62_1 : runF (envP sgP89) 62 [.str, (.int .i64)] [((.pair (.int .i64) (.pair (.int .i64) (.pair (.int .i64) (.pair .bool .unit)))), false)] (([105, 102, 32, 97], (2, ())) : ((List UInt8) × Int × Unit)) = some (((1, (2, (3, (false, ())))), ()) : ((Int × (Int × (Int × (Bool × Unit)))) × Unit)) := by kernel_rfl
theorem pt62_2 : runF (envP sgP89) 62 [.str, (.int .i64)] [((.pair (.int .i64) (.pair (.int .i64) (.pair (.int .i64) (.pair .bool .unit)))), false)] (([105, 102, 32, 97], (3, ())) : ((List UInt8) × Int × Unit)) = some (((6, (3, (4, (false, ())))), ()) : ((Int × (Int × (Int × (Bool × Unit)))) × Unit)) := by kernel_rfl
def ptF62 (x : ((List UInt8) × Int × Unit)) : Option ((Int × (Int × (Int × (Bool × Unit)))) × Unit) := bif decide (x = ([105, 102, 32, 97], (0, ()))) then some ((6, (0, (2, (false, ())))), ()) else bif decide (x = ([105, 102, 32, 97], (2, ()))) then some ((1, (2, (3, (false, ())))), ()) else bif decide (x = ([105, 102, 32, 97], (3, ()))) then some ((6, (3, (4, (false, ())))), ()) else none
theorem ptF62_run (x : ((List UInt8) × Int × Unit)) (y : ((Int × (Int × (Int × (Bool × Unit)))) × Unit)) (h : ptF62 x = some y) : runF (envP sgP89) 62 [.str, (.int .i64)] [((.pair (.int .i64) (.pair (.int .i64) (.pair (.int .i64) (.pair .bool .unit)))), false)] x = some y := by
  unfold ptF62 at h
  rw [cond_eq_ite] at h
  split at h
  · rename_i he
    have e := of_decide_eq_true he
    subst e
    cases h
    exact pt62_0
  rw [cond_eq_ite] at h
  split at h
  · rename_i he
    have e := of_decide_eq_true he
    subst e
    cases h
    exact pt62_1
  rw [cond_eq_ite] at h
  split at h
  · rename_i he
    have e := of_decide_eq_true he
    subst e
    cases h
    exact pt62_2
  cases h
theorem sumP62_ok : SumOk Tryz.prog 62 ⟨[.str, (.int .i64)], [((.pair (.int .i64) (.pair (.int .i64) (.pair (.int .i64) (.pair .bool .unit)))), false)], ptF62⟩ := sum_of_run (envP_ok sgP89_ok) (by decide) fun x y h => ptF62_run x y h
noncomputable def sgP62 (g : FuncId) : Option Sum := bif Nat.beq g 62 then some ⟨[.str, (.int .i64)], [((.pair (.int .i64) (.pair (.int .i64) (.pair (.int .i64) (.pair .bool .unit)))), false)], ptF62⟩ else sgP89 g
theorem sgP62_ok : ∀ g s, sgP62 g = some s → SumOk Tryz.prog g s := sg_or sgP89_ok sumP62_ok

/-! ### quillwort/parse.Clean -/
theorem pt16_0 : runF (envP sgP62) 16 [(.list (.pair (.int .i64) (.pair (.int .i64) (.pair (.int .i64) (.pair (.int .i64) .unit)))))] [(.bool, false)] (([(1, (0, (2, ((-1), ())))), (2, (0, (2, (0, ())))), (3, (0, (2, (1, ())))), (4, (0, (2, (2, ())))), (11, (0, (2, (3, ())))), (2, (1, (2, (4, ())))), (3, (1, (2, (5, ())))), (4, (1, (2, (6, ())))), (5, (1, (2, (7, ())))), (7, (1, (2, (8, ())))), (18, (2, (2, (4, ())))), (18, (2, (2, (4, ())))), (18, (2, (2, (4, ()))))], ()) : ((List (Int × (Int × (Int × (Int × Unit))))) × Unit)) = some ((false, ()) : (Bool × Unit)) := by kernel_rfl
def ptF16 (x : ((List (Int × (Int × (Int × (Int × Unit))))) × Unit)) : Option (Bool × Unit) := bif decide (x = ([(1, (0, (2, ((-1), ())))), (2, (0, (2, (0, ())))), (3, (0, (2, (1, ())))), (4, (0, (2, (2, ())))), (11, (0, (2, (3, ())))), (2, (1, (2, (4, ())))), (3, (1, (2, (5, ())))), (4, (1, (2, (6, ())))), (5, (1, (2, (7, ())))), (7, (1, (2, (8, ())))), (18, (2, (2, (4, ())))), (18, (2, (2, (4, ())))), (18, (2, (2, (4, ()))))], ())) then some (false, ()) else none
theorem ptF16_run (x : ((List (Int × (Int × (Int × (Int × Unit))))) × Unit)) (y : (Bool × Unit)) (h : ptF16 x = some y) : runF (envP sgP62) 16 [(.list (.pair (.int .i64) (.pair (.int .i64) (.pair (.int .i64) (.pair (.int .i64) .unit)))))] [(.bool, false)] x = some y := by
  unfold ptF16 at h
  rw [cond_eq_ite] at h
  split at h
  · rename_i he
    have e := of_decide_eq_true he
    subst e
    cases h
    exact pt16_0
  cases h
theorem sumP16_ok : SumOk Tryz.prog 16 ⟨[(.list (.pair (.int .i64) (.pair (.int .i64) (.pair (.int .i64) (.pair (.int .i64) .unit)))))], [(.bool, false)], ptF16⟩ := sum_of_run (envP_ok sgP62_ok) (by decide) fun x y h => ptF16_run x y h
noncomputable def sgP16 (g : FuncId) : Option Sum := bif Nat.beq g 16 then some ⟨[(.list (.pair (.int .i64) (.pair (.int .i64) (.pair (.int .i64) (.pair (.int .i64) .unit)))))], [(.bool, false)], ptF16⟩ else sgP62 g
theorem sgP16_ok : ∀ g s, sgP16 g = some s → SumOk Tryz.prog g s := sg_or sgP62_ok sumP16_ok

/-! ### quillwort/token.Text -/
theorem pt32_0 : runF (envP sgP16) 32 [.str, (.pair (.int .i64) (.pair (.int .i64) (.pair (.int .i64) (.pair .bool .unit))))] [(.str, false)] (([105, 102, 32, 97], ((6, (0, (2, (false, ())))), ())) : ((List UInt8) × (Int × (Int × (Int × (Bool × Unit)))) × Unit)) = some (([105, 102], ()) : ((List UInt8) × Unit)) := by kernel_rfl
theorem pt32_1 : runF (envP sgP16) 32 [.str, (.pair (.int .i64) (.pair (.int .i64) (.pair (.int .i64) (.pair .bool .unit))))] [(.str, false)] (([105, 102, 32, 97], ((6, (3, (4, (false, ())))), ())) : ((List UInt8) × (Int × (Int × (Int × (Bool × Unit)))) × Unit)) = some (([97], ()) : ((List UInt8) × Unit)) := by kernel_rfl
def ptF32 (x : ((List UInt8) × (Int × (Int × (Int × (Bool × Unit)))) × Unit)) : Option ((List UInt8) × Unit) := bif decide (x = ([105, 102, 32, 97], ((6, (0, (2, (false, ())))), ()))) then some ([105, 102], ()) else bif decide (x = ([105, 102, 32, 97], ((6, (3, (4, (false, ())))), ()))) then some ([97], ()) else none
theorem ptF32_run (x : ((List UInt8) × (Int × (Int × (Int × (Bool × Unit)))) × Unit)) (y : ((List UInt8) × Unit)) (h : ptF32 x = some y) : runF (envP sgP16) 32 [.str, (.pair (.int .i64) (.pair (.int .i64) (.pair (.int .i64) (.pair .bool .unit))))] [(.str, false)] x = some y := by
  unfold ptF32 at h
  rw [cond_eq_ite] at h
  split at h
  · rename_i he
    have e := of_decide_eq_true he
    subst e
    cases h
    exact pt32_0
  rw [cond_eq_ite] at h
  split at h
  · rename_i he
    have e := of_decide_eq_true he
    subst e
    cases h
    exact pt32_1
  cases h
theorem sumP32_ok : SumOk Tryz.prog 32 ⟨[.str, (.pair (.int .i64) (.pair (.int .i64) (.pair (.int .i64) (.pair .bool .unit))))], [(.str, false)], ptF32⟩ := sum_of_run (envP_ok sgP16_ok) (by decide) fun x y h => ptF32_run x y h
noncomputable def sgP32 (g : FuncId) : Option Sum := bif Nat.beq g 32 then some ⟨[.str, (.pair (.int .i64) (.pair (.int .i64) (.pair (.int .i64) (.pair .bool .unit))))], [(.str, false)], ptF32⟩ else sgP16 g
theorem sgP32_ok : ∀ g s, sgP32 g = some s → SumOk Tryz.prog g s := sg_or sgP16_ok sumP32_ok

/-! ### quillwort/rules.Name -/
theorem pt37_0 : runF (envP sgP32) 37 [(.int .i64)] [(.str, false)] ((11, ()) : (Int × Unit)) = some (([105, 102], ()) : ((List UInt8) × Unit)) := by kernel_rfl
def ptF37 (x : (Int × Unit)) : Option ((List UInt8) × Unit) := bif decide (x = (11, ())) then some ([105, 102], ()) else none
theorem ptF37_run (x : (Int × Unit)) (y : ((List UInt8) × Unit)) (h : ptF37 x = some y) : runF (envP sgP32) 37 [(.int .i64)] [(.str, false)] x = some y := by
  unfold ptF37 at h
  rw [cond_eq_ite] at h
  split at h
  · rename_i he
    have e := of_decide_eq_true he
    subst e
    cases h
    exact pt37_0
  cases h
theorem sumP37_ok : SumOk Tryz.prog 37 ⟨[(.int .i64)], [(.str, false)], ptF37⟩ := sum_of_run (envP_ok sgP32_ok) (by decide) fun x y h => ptF37_run x y h
noncomputable def sgP37 (g : FuncId) : Option Sum := bif Nat.beq g 37 then some ⟨[(.int .i64)], [(.str, false)], ptF37⟩ else sgP32 g
theorem sgP37_ok : ∀ g s, sgP37 g = some s → SumOk Tryz.prog g s := sg_or sgP32_ok sumP37_ok

/-! ### slices.BinarySearch[[]int,int] -/
theorem pt55_0 : runF (envP sgP37) 55 [(.list (.int .i64)), (.int .i64)] [((.int .i64), false), (.bool, false)] (([], (4, ())) : ((List Int) × Int × Unit)) = some ((0, (false, ())) : (Int × Bool × Unit)) := by kernel_rfl
def ptF55 (x : ((List Int) × Int × Unit)) : Option (Int × Bool × Unit) := bif decide (x = ([], (4, ()))) then some (0, (false, ())) else none
theorem ptF55_run (x : ((List Int) × Int × Unit)) (y : (Int × Bool × Unit)) (h : ptF55 x = some y) : runF (envP sgP37) 55 [(.list (.int .i64)), (.int .i64)] [((.int .i64), false), (.bool, false)] x = some y := by
  unfold ptF55 at h
  rw [cond_eq_ite] at h
  split at h
  · rename_i he
    have e := of_decide_eq_true he
    subst e
    cases h
    exact pt55_0
  cases h
theorem sumP55_ok : SumOk Tryz.prog 55 ⟨[(.list (.int .i64)), (.int .i64)], [((.int .i64), false), (.bool, false)], ptF55⟩ := sum_of_run (envP_ok sgP37_ok) (by decide) fun x y h => ptF55_run x y h
noncomputable def sgP55 (g : FuncId) : Option Sum := bif Nat.beq g 55 then some ⟨[(.list (.int .i64)), (.int .i64)], [((.int .i64), false), (.bool, false)], ptF55⟩ else sgP37 g
theorem sgP55_ok : ∀ g s, sgP55 g = some s → SumOk Tryz.prog g s := sg_or sgP37_ok sumP55_ok

/-! ### quillwort/diag.Notes -/
theorem pt7_0 : runF (envP sgP55) 7 [.str] [((.list (.pair (.int .i64) (.pair (.int .i64) (.pair .str .unit)))), false)] (([105, 102, 32, 97], ()) : ((List UInt8) × Unit)) = some (([(1, (5, ([115, 111, 109, 101, 116, 104, 105, 110, 103, 32, 105, 115, 32, 109, 105, 115, 115, 105, 110, 103, 32, 105, 110, 32, 105, 102], ()))), (1, (5, ([115, 111, 109, 101, 116, 104, 105, 110, 103, 32, 105, 115, 32, 109, 105, 115, 115, 105, 110, 103, 32, 105, 110, 32, 105, 102], ()))), (1, (5, ([115, 111, 109, 101, 116, 104, 105, 110, 103, 32, 105, 115, 32, 109, 105, 115, 115, 105, 110, 103, 32, 105, 110, 32, 105, 102], ())))], ()) : ((List (Int × (Int × ((List UInt8) × Unit)))) × Unit)) := by kernel_rfl
def ptF7 (x : ((List UInt8) × Unit)) : Option ((List (Int × (Int × ((List UInt8) × Unit)))) × Unit) := bif decide (x = ([105, 102, 32, 97], ())) then some ([(1, (5, ([115, 111, 109, 101, 116, 104, 105, 110, 103, 32, 105, 115, 32, 109, 105, 115, 115, 105, 110, 103, 32, 105, 110, 32, 105, 102], ()))), (1, (5, ([115, 111, 109, 101, 116, 104, 105, 110, 103, 32, 105, 115, 32, 109, 105, 115, 115, 105, 110, 103, 32, 105, 110, 32, 105, 102], ()))), (1, (5, ([115, 111, 109, 101, 116, 104, 105, 110, 103, 32, 105, 115, 32, 109, 105, 115, 115, 105, 110, 103, 32, 105, 110, 32, 105, 102], ())))], ()) else none
theorem ptF7_run (x : ((List UInt8) × Unit)) (y : ((List (Int × (Int × ((List UInt8) × Unit)))) × Unit)) (h : ptF7 x = some y) : runF (envP sgP55) 7 [.str] [((.list (.pair (.int .i64) (.pair (.int .i64) (.pair .str .unit)))), false)] x = some y := by
  unfold ptF7 at h
  rw [cond_eq_ite] at h
  split at h
  · rename_i he
    have e := of_decide_eq_true he
    subst e
    cases h
    exact pt7_0
  cases h
theorem sumP7_ok : SumOk Tryz.prog 7 ⟨[.str], [((.list (.pair (.int .i64) (.pair (.int .i64) (.pair .str .unit)))), false)], ptF7⟩ := sum_of_run (envP_ok sgP55_ok) (by decide) fun x y h => ptF7_run x y h
noncomputable def sgP7 (g : FuncId) : Option Sum := bif Nat.beq g 7 then some ⟨[.str], [((.list (.pair (.int .i64) (.pair (.int .i64) (.pair .str .unit)))), false)], ptF7⟩ else sgP55 g
theorem sgP7_ok : ∀ g s, sgP7 g = some s → SumOk Tryz.prog g s := sg_or sgP55_ok sumP7_ok

/-! ### quillwort/diag.State -/
theorem pt8_0 : runF (envP sgP7) 8 [.str] [((.int .i64), false)] (([105, 102, 32, 97], ()) : ((List UInt8) × Unit)) = some ((2, ()) : (Int × Unit)) := by kernel_rfl
def ptF8 (x : ((List UInt8) × Unit)) : Option (Int × Unit) := bif decide (x = ([105, 102, 32, 97], ())) then some (2, ()) else none
theorem ptF8_run (x : ((List UInt8) × Unit)) (y : (Int × Unit)) (h : ptF8 x = some y) : runF (envP sgP7) 8 [.str] [((.int .i64), false)] x = some y := by
  unfold ptF8 at h
  rw [cond_eq_ite] at h
  split at h
  · rename_i he
    have e := of_decide_eq_true he
    subst e
    cases h
    exact pt8_0
  cases h
theorem sumP8_ok : SumOk Tryz.prog 8 ⟨[.str], [((.int .i64), false)], ptF8⟩ := sum_of_run (envP_ok sgP7_ok) (by decide) fun x y h => ptF8_run x y h
noncomputable def sgP8 (g : FuncId) : Option Sum := bif Nat.beq g 8 then some ⟨[.str], [((.int .i64), false)], ptF8⟩ else sgP7 g
theorem sgP8_ok : ∀ g s, sgP8 g = some s → SumOk Tryz.prog g s := sg_or sgP7_ok sumP8_ok

/-! ### quillwort/diag.Line -/
theorem pt5_0 : runF (envP sgP8) 5 [(.pair (.int .i64) (.pair (.int .i64) (.pair .str .unit)))] [(.str, false)] (((1, (5, ([115, 111, 109, 101, 116, 104, 105, 110, 103, 32, 105, 115, 32, 109, 105, 115, 115, 105, 110, 103, 32, 105, 110, 32, 105, 102], ()))), ()) : ((Int × (Int × ((List UInt8) × Unit))) × Unit)) = some (([49, 58, 53, 58, 32, 115, 111, 109, 101, 116, 104, 105, 110, 103, 32, 105, 115, 32, 109, 105, 115, 115, 105, 110, 103, 32, 105, 110, 32, 105, 102], ()) : ((List UInt8) × Unit)) := by kernel_rfl
def ptF5 (x : ((Int × (Int × ((List UInt8) × Unit))) × Unit)) : Option ((List UInt8) × Unit) := bif decide (x = ((1, (5, ([115, 111, 109, 101, 116, 104, 105, 110, 103, 32, 105, 115, 32, 109, 105, 115, 115, 105, 110, 103, 32, 105, 110, 32, 105, 102], ()))), ())) then some ([49, 58, 53, 58, 32, 115, 111, 109, 101, 116, 104, 105, 110, 103, 32, 105, 115, 32, 109, 105, 115, 115, 105, 110, 103, 32, 105, 110, 32, 105, 102], ()) else none
theorem ptF5_run (x : ((Int × (Int × ((List UInt8) × Unit))) × Unit)) (y : ((List UInt8) × Unit)) (h : ptF5 x = some y) : runF (envP sgP8) 5 [(.pair (.int .i64) (.pair (.int .i64) (.pair .str .unit)))] [(.str, false)] x = some y := by
  unfold ptF5 at h
  rw [cond_eq_ite] at h
  split at h
  · rename_i he
    have e := of_decide_eq_true he
    subst e
    cases h
    exact pt5_0
  cases h
theorem sumP5_ok : SumOk Tryz.prog 5 ⟨[(.pair (.int .i64) (.pair (.int .i64) (.pair .str .unit)))], [(.str, false)], ptF5⟩ := sum_of_run (envP_ok sgP8_ok) (by decide) fun x y h => ptF5_run x y h
noncomputable def sgP5 (g : FuncId) : Option Sum := bif Nat.beq g 5 then some ⟨[(.pair (.int .i64) (.pair (.int .i64) (.pair .str .unit)))], [(.str, false)], ptF5⟩ else sgP8 g
theorem sgP5_ok : ∀ g s, sgP5 g = some s → SumOk Tryz.prog g s := sg_or sgP8_ok sumP5_ok

theorem awake_run : runF (envP sgP5) 4 [] [(.bool, false)] () = some (true, ()) := by kernel_rfl
def sumAwake : Sum := ⟨[], [(.bool, false)], fun _ => some (true, ())⟩
theorem sumAwake_ok : SumOk Tryz.prog 4 sumAwake := sum_of_run (envP_ok sgP5_ok) (by decide) fun x y h => by
  cases h
  exact awake_run
end Go.Proofs.YtipbcgjogddigaaGreatDoor
