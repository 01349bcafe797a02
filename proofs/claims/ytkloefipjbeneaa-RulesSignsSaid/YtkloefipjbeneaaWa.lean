/-
  Words of the plain functions as mathematics.
-/
import Derived.Test.YtkloefipjbeneaaFa
namespace Go.Proofs.Ytkloefipjbeneaa
open Go.RowKit
set_option linter.unusedVariables false
set_option linter.unusedSimpArgs false

theorem addK_eq {a b : Int} (h1 : -9223372036854775808 ≤ a + b) (h2 : a + b ≤ 9223372036854775807) : addK .i64 a b = a + b := by
  unfold addK; rw [IntKind.wrap_i64]; omega
theorem subK_eq {a b : Int} (h1 : -9223372036854775808 ≤ a - b) (h2 : a - b ≤ 9223372036854775807) : subK .i64 a b = a - b := by
  unfold subK; rw [IntKind.wrap_i64]; omega
theorem leI_iff {a b : Int} : leI a b = true ↔ a ≤ b := by simp [leI]
theorem ltI_iff {a b : Int} : ltI a b = true ↔ a < b := by simp [ltI]
theorem eqI_iff {a b : Int} : eqI a b = true ↔ a = b := by simp [eqI]
theorem inI_iff {α : Type} {l : List α} {i : Int} : inI l i = true ↔ 0 ≤ i ∧ i < l.length := by simp [inI]
theorem ltL_iff {α : Type} {l : List α} {i : Nat} : ltL i l = true ↔ i < l.length := by simp [ltL, ltN]
theorem partI_iff {n lo hi : Int} : partI n lo hi = true ↔ 0 ≤ lo ∧ lo ≤ hi ∧ hi ≤ n := by simp [partI]

/-- the branches of a test -/
theorem bif_t {α : Type} {b : Bool} {x y : α} (h : b = true) : (bif b then x else y) = x := by rw [h]; rfl
theorem bif_f {α : Type} {b : Bool} {x y : α} (h : b = false) : (bif b then x else y) = y := by rw [h]; rfl
theorem leI_t {a b : Int} (h : a ≤ b) : leI a b = true := leI_iff.2 h
theorem leI_f {a b : Int} (h : b < a) : leI a b = false := by simp [leI]; omega
theorem ltI_t {a b : Int} (h : a < b) : ltI a b = true := ltI_iff.2 h
theorem ltI_f {a b : Int} (h : b ≤ a) : ltI a b = false := by simp [ltI]; omega
theorem leI_n {a b : Int} (h : ¬ a ≤ b) : leI a b = false := leI_f (by omega)
theorem ltI_n {a b : Int} (h : ¬ a < b) : ltI a b = false := ltI_f (by omega)
theorem eqI_t {a b : Int} (h : a = b) : eqI a b = true := eqI_iff.2 h
theorem eqI_f {a b : Int} (h : a ≠ b) : eqI a b = false := by simp [eqI]; exact h
theorem inI_t {α : Type} {l : List α} {i : Int} (h : 0 ≤ i) (h2 : i < l.length) : inI l i = true := inI_iff.2 ⟨h, h2⟩
theorem ltL_t {α : Type} {l : List α} {i : Nat} (h : i < l.length) : ltL i l = true := ltL_iff.2 h
theorem partI_t {n lo hi : Int} (h : 0 ≤ lo) (h1 : lo ≤ hi) (h2 : hi ≤ n) : partI n lo hi = true := partI_iff.2 ⟨h, h1, h2⟩
theorem lenI_eq {α : Type} {l : List α} : lenI l = (l.length : Int) := rfl
theorem big_fuel {n : Nat} (h : n < 1000000000000000000000000) : n < fuelN := by unfold fuelN; omega

theorem byteAt_tab (s : List UInt8) (i : Int) : ∃ n : Fin 256, byteAt s i = ((n.val : Nat) : Int) := ⟨⟨(s.getD i.toNat 0).toNat, UInt8.toNat_lt _⟩, rfl⟩

theorem byteAt_sub {s : List UInt8} {a b j : Int} (ha : 0 ≤ a) (hj : 0 ≤ j) (h : a + j < b) : byteAt (sub s a b) j = byteAt s (a + j) := by
  unfold byteAt sub
  congr 2
  simp only [List.getD, List.getElem?_drop, List.getElem?_take]
  rw [if_pos (by omega)]
  congr 2
  omega

theorem sub_len {α : Type} {s : List α} {a b : Int} (ha : 0 ≤ a) (hab : a ≤ b) (h : b ≤ s.length) : (((sub s a b).length : Nat) : Int) = b - a := by
  unfold sub
  simp only [List.length_drop, List.length_take]
  omega

theorem getI_append_left {α : Type} {l m : List α} {d : α} {i : Int} (h0 : 0 ≤ i) (h : i < l.length) : getI (l ++ m) d i = getI l d i := by
  unfold getI
  simp only [List.getD]
  rw [List.getElem?_append_left (by omega)]

theorem getI_append_last {α : Type} {l : List α} {d x : α} {i : Int} (h : i = l.length) : getI (l ++ [x]) d i = x := by
  unfold getI
  subst h
  simp [List.getD]
end Go.Proofs.Ytkloefipjbeneaa
