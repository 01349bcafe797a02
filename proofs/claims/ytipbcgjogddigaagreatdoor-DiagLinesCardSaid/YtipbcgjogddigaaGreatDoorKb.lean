/-
  Words of the plain functions as mathematics; rows of nodes.
-/
import Derived.Test.YtipbcgjogddigaaGreatDoorFa
namespace Go.Proofs.YtipbcgjogddigaaGreatDoor
open Go.RowKit
set_option linter.unusedVariables false
set_option linter.unusedSimpArgs false

theorem addK_eq {a b : Int} (h1 : -9223372036854775808 ≤ a + b) (h2 : a + b ≤ 9223372036854775807) : addK .i64 a b = a + b := by
  unfold addK; rw [IntKind.wrap_i64]; omega
theorem subK_eq {a b : Int} (h1 : -9223372036854775808 ≤ a - b) (h2 : a - b ≤ 9223372036854775807) : subK .i64 a b = a - b := by
  unfold subK; rw [IntKind.wrap_i64]; omega
theorem leI_iff {a b : Int} : leI a b = true ↔ a ≤ b := by simp [leI]
theorem ltI_iff {a b : Int} : ltI a b = true ↔ a < b := by simp [ltI]
theorem eqI_iff {a b : Int} : eqI a b = true ↔ a = b := by simp [eqI]
theorem inI_iff {α : Type} {l : List α} {i : Int} : inI l i = true ↔ 0 ≤ i ∧ i < l.length := by simp [inI]
theorem ltL_iff {α : Type} {l : List α} {i : Nat} : ltL i l = true ↔ i < l.length := by simp [ltL, ltN]
theorem partI_iff {n lo hi : Int} : partI n lo hi = true ↔ 0 ≤ lo ∧ lo ≤ hi ∧ hi ≤ n := by simp [partI]

/-- the branches of a test -/
theorem bif_t {α : Type} {b : Bool} {x y : α} (h : b = true) : (bif b then x else y) = x := by rw [h]; rfl
theorem bif_f {α : Type} {b : Bool} {x y : α} (h : b = false) : (bif b then x else y) = y := by rw [h]; rfl
theorem leI_t {a b : Int} (h : a ≤ b) : leI a b = true := leI_iff.2 h
theorem leI_f {a b : Int} (h : b < a) : leI a b = false := by simp [leI]; omega
theorem ltI_t {a b : Int} (h : a < b) : ltI a b = true := ltI_iff.2 h
theorem ltI_f {a b : Int} (h : b ≤ a) : ltI a b = false := by simp [ltI]; omega
theorem leI_n {a b : Int} (h : ¬ a ≤ b) : leI a b = false := leI_f (by omega)
theorem ltI_n {a b : Int} (h : ¬ a < b) : ltI a b = false := ltI_f (by omega)
theorem eqI_t {a b : Int} (h : a = b) : eqI a b = true := eqI_iff.2 h
theorem eqI_f {a b : Int} (h : a ≠ b) : eqI a b = false := by simp [eqI]; exact h
theorem inI_t {α : Type} {l : List α} {i : Int} (h : 0 ≤ i) (h2 : i < l.length) : inI l i = true := inI_iff.2 ⟨h, h2⟩
theorem ltL_t {α : Type} {l : List α} {i : Nat} (h : i < l.length) : ltL i l = true := ltL_iff.2 h
theorem partI_t {n lo hi : Int} (h : 0 ≤ lo) (h1 : lo ≤ hi) (h2 : hi ≤ n) : partI n lo hi = true := partI_iff.2 ⟨h, h1, h2⟩
theorem lenI_eq {α : Type} {l : List α} : lenI l = (l.length : Int) := rfl
theorem big_fuel {n : Nat} (h : n < 1000000000000000000000000) : n < fuelN := by unfold fuelN; omega
theorem eqS_iff {a b : List UInt8} : eqS a b = true ↔ a = b := by simp [eqS]
theorem eqS_t {a b : List UInt8} (h : a = b) : eqS a b = true := eqS_iff.2 h

/-- the numerals of three digits, and the library's -/
theorem small_all : ∀ n : Fin 1000, fn6 ((n.val : Nat) : Int) = some (itoaK ((n.val : Nat) : Int), ()) ∧ (itoaK ((n.val : Nat) : Int)).length ≤ 3 := by decide +kernel

theorem small (n : Int) (h0 : 0 ≤ n) (h1 : n ≤ 999) : fn6 n = some (itoaK n, ()) ∧ (itoaK n).length ≤ 3 := by
  have := small_all ⟨n.toNat, by omega⟩
  rwa [show ((n.toNat : Nat) : Int) = n by omega] at this

theorem itoaF_small (n : Int) (h0 : 0 ≤ n) (h1 : n ≤ 999) : itoaF n = some (itoaK n, ()) := by
  unfold itoaF
  rw [decide_eq_true (by omega), decide_eq_true (by omega)]
  rfl

theorem room_t {a b : List UInt8} (h : a.length + b.length ≤ 1000) : roomS a b = true := by
  unfold roomS roomN
  exact decide_eq_true (by omega)

theorem law3 (x0 x1 : Int) (x2 : List UInt8) (w0 : wfD (.int .u16) x0) (w1 : wfD (.int .u16) x1) (w2 : wfD .str x2) : fn3 x0 x1 x2 = some (true, ()) := by
  have b0 : 0 ≤ x0 ∧ x0 ≤ 65535 := by
    have : (Lit.int .u16 x0).wf = true := w0
    simpa [Lit.wf, IntKind.min, IntKind.max, IntKind.signed, IntKind.bits] using this
  have b1 : 0 ≤ x1 ∧ x1 ≤ 65535 := by
    have : (Lit.int .u16 x1).wf = true := w1
    simpa [Lit.wf, IntKind.min, IntKind.max, IntKind.signed, IntKind.bits] using this
  unfold fn3
  by_cases h0 : 999 < x0
  · rw [bif_t (ltI_t h0)]
  · rw [bif_f (ltI_f (by omega))]
    by_cases h1 : 999 < x1
    · rw [bif_t (ltI_t h1)]
    · rw [bif_f (ltI_f (by omega))]
      by_cases h2 : 60 < x2.length
      · rw [bif_t (ltI_t (by rw [lenI_eq]; omega))]
      · rw [bif_f (ltI_f (by rw [lenI_eq]; omega))]
        have e0 : wrapK .i64 x0 = x0 := by unfold wrapK; rw [IntKind.wrap_i64]; omega
        have e1 : wrapK .i64 x1 = x1 := by unfold wrapK; rw [IntKind.wrap_i64]; omega
        obtain ⟨s0, l0⟩ := small x0 (by omega) (by omega)
        obtain ⟨s1, l1⟩ := small x1 (by omega) (by omega)
        have f5 : fn5 (x0, (x1, (x2, ()))) = some (catL (catL (catL (catL (itoaK x0) [58]) (itoaK x1)) [58, 32]) x2, ()) := by
          unfold fn5
          rw [itoaF_small x0 (by omega) (by omega), itoaF_small x1 (by omega) (by omega)]
          simp only [obind]
          rw [bif_t (room_t (by simp; omega)), bif_t (room_t (by simp [catL]; omega)), bif_t (room_t (by simp [catL]; omega)), bif_t (room_t (by simp [catL]; omega))]
        rw [e0, e1, f5, s0, s1]
        simp only [obind]
        rw [bif_t (room_t (by simp; omega)), bif_t (room_t (by simp [catL]; omega)), bif_t (room_t (by simp [catL]; omega)), bif_t (room_t (by simp [catL]; omega)), eqS_t rfl]
end Go.Proofs.YtipbcgjogddigaaGreatDoor
