/-
  Words of the plain functions as mathematics; rows of nodes.
-/
import Derived.Test.YtgcbehapggfhmaaGreatDoorBd
namespace Go.Proofs.YtgcbehapggfhmaaGreatDoor
open Go.RowKit
set_option linter.unusedVariables false
set_option linter.unusedSimpArgs false

theorem addK_eq {a b : Int} (h1 : -9223372036854775808 ≤ a + b) (h2 : a + b ≤ 9223372036854775807) : addK .i64 a b = a + b := by
  unfold addK; rw [IntKind.wrap_i64]; omega
theorem subK_eq {a b : Int} (h1 : -9223372036854775808 ≤ a - b) (h2 : a - b ≤ 9223372036854775807) : subK .i64 a b = a - b := by
  unfold subK; rw [IntKind.wrap_i64]; omega
theorem leI_iff {a b : Int} : leI a b = true ↔ a ≤ b := by simp [leI]
theorem ltI_iff {a b : Int} : ltI a b = true ↔ a < b := by simp [ltI]
theorem eqI_iff {a b : Int} : eqI a b = true ↔ a = b := by simp [eqI]
theorem inI_iff {α : Type} {l : List α} {i : Int} : inI l i = true ↔ 0 ≤ i ∧ i < l.length := by simp [inI]
theorem ltL_iff {α : Type} {l : List α} {i : Nat} : ltL i l = true ↔ i < l.length := by simp [ltL, ltN]
theorem partI_iff {n lo hi : Int} : partI n lo hi = true ↔ 0 ≤ lo ∧ lo ≤ hi ∧ hi ≤ n := by simp [partI]

/-- the branches of a test -/
theorem bif_t {α : Type} {b : Bool} {x y : α} (h : b = true) : (bif b then x else y) = x := by rw [h]; rfl
theorem bif_f {α : Type} {b : Bool} {x y : α} (h : b = false) : (bif b then x else y) = y := by rw [h]; rfl
theorem leI_t {a b : Int} (h : a ≤ b) : leI a b = true := leI_iff.2 h
theorem leI_f {a b : Int} (h : b < a) : leI a b = false := by simp [leI]; omega
theorem ltI_t {a b : Int} (h : a < b) : ltI a b = true := ltI_iff.2 h
theorem ltI_f {a b : Int} (h : b ≤ a) : ltI a b = false := by simp [ltI]; omega
theorem leI_n {a b : Int} (h : ¬ a ≤ b) : leI a b = false := leI_f (by omega)
theorem ltI_n {a b : Int} (h : ¬ a < b) : ltI a b = false := ltI_f (by omega)
theorem eqI_t {a b : Int} (h : a = b) : eqI a b = true := eqI_iff.2 h
theorem eqI_f {a b : Int} (h : a ≠ b) : eqI a b = false := by simp [eqI]; exact h
theorem inI_t {α : Type} {l : List α} {i : Int} (h : 0 ≤ i) (h2 : i < l.length) : inI l i = true := inI_iff.2 ⟨h, h2⟩
theorem ltL_t {α : Type} {l : List α} {i : Nat} (h : i < l.length) : ltL i l = true := ltL_iff.2 h
theorem partI_t {n lo hi : Int} (h : 0 ≤ lo) (h1 : lo ≤ hi) (h2 : hi ≤ n) : partI n lo hi = true := partI_iff.2 ⟨h, h1, h2⟩
theorem lenI_eq {α : Type} {l : List α} : lenI l = (l.length : Int) := rfl
theorem big_fuel {n : Nat} (h : n < 1000000000000000000000000) : n < fuelN := by unfold fuelN; omega
theorem eqS_iff {a b : List UInt8} : eqS a b = true ↔ a = b := by simp [eqS]
theorem eqS_f {a b : List UInt8} (h : a ≠ b) : eqS a b = false := by simp [eqS]; exact h
theorem eqS_t {a b : List UInt8} (h : a = b) : eqS a b = true := eqS_iff.2 h
theorem sub0 (l : List UInt8) (n : Nat) : sub l 0 (n : Int) = l.take n := by simp [sub]

/-- how far two texts agree -/
def lcpN : List UInt8 → List UInt8 → Nat
  | a :: p, b :: q => if a = b then lcpN p q + 1 else 0
  | _, _ => 0

theorem lcpN_le : ∀ (h s : List UInt8) (n : Nat), n ≤ lcpN h s ↔ n ≤ h.length ∧ n ≤ s.length ∧ s.take n = h.take n
  | [], s, n => by
    simp only [lcpN, List.length_nil, Nat.le_zero_eq]
    constructor
    · rintro rfl; simp
    · exact fun h => h.1
  | _ :: _, [], n => by
    simp only [lcpN, List.length_nil, Nat.le_zero_eq]
    constructor
    · rintro rfl; simp
    · exact fun h => h.2.1
  | a :: p, b :: q, 0 => by simp
  | a :: p, b :: q, n + 1 => by
    simp only [lcpN, List.length_cons, List.take_succ_cons, List.cons.injEq]
    by_cases e : a = b
    · rw [if_pos e, Nat.add_le_add_iff_right, lcpN_le p q n]
      constructor
      · rintro ⟨h1, h2, h3⟩; exact ⟨by omega, by omega, e.symm, h3⟩
      · rintro ⟨h1, h2, _, h3⟩; exact ⟨by omega, by omega, h3⟩
    · rw [if_neg e]
      constructor
      · intro h; omega
      · rintro ⟨_, _, h3, _⟩; exact absurd h3.symm e

theorem lcpN_lt : ∀ (h s : List UInt8) (n : Nat), n < lcpN h s → n < h.length ∧ n < s.length ∧ s.getD n 0 = h.getD n 0
  | [], s, n, hn => by simp [lcpN] at hn
  | _ :: _, [], n, hn => by simp [lcpN] at hn
  | a :: p, b :: q, n, hn => by
    simp only [lcpN] at hn
    by_cases e : a = b
    · rw [if_pos e] at hn
      cases n with
      | zero => exact ⟨by simp, by simp, by simp [e]⟩
      | succ n =>
        have := lcpN_lt p q n (by omega)
        exact ⟨by simp; omega, by simp; omega, by simpa using this.2.2⟩
    · rw [if_neg e] at hn; omega

theorem lcpN_at : ∀ (h s : List UInt8), lcpN h s < h.length → lcpN h s = s.length ∨ (lcpN h s < s.length ∧ s.getD (lcpN h s) 0 ≠ h.getD (lcpN h s) 0)
  | [], s, hn => by simp at hn
  | _ :: _, [], hn => .inl rfl
  | a :: p, b :: q, hn => by
    simp only [lcpN] at hn ⊢
    by_cases e : a = b
    · rw [if_pos e] at hn ⊢
      rcases lcpN_at p q (by simpa using hn) with h1 | ⟨h1, h2⟩
      · exact .inl (by simp [h1])
      · exact .inr ⟨by simpa using h1, by simpa using h2⟩
    · rw [if_neg e]
      exact .inr ⟨by simp, by simpa using fun h => e h.symm⟩

/-- what is left of a head behind a text -/
def cutF1 (h s : List UInt8) : List UInt8 := h.take (lcpN h s)

theorem cutF1_len (h s : List UInt8) : (cutF1 h s).length = lcpN h s := by
  have := ((lcpN_le h s (lcpN h s)).1 (Nat.le_refl _)).1
  simp [cutF1]; omega

theorem fold_le : ∀ (r : List (List UInt8)) (h : List UInt8) (n : Nat), n ≤ (r.foldl cutF1 h).length ↔ n ≤ h.length ∧ ∀ s ∈ r, n ≤ s.length ∧ s.take n = h.take n
  | [], h, n => by simp
  | s :: r, h, n => by
    rw [List.foldl_cons, fold_le r (cutF1 h s) n, cutF1_len, lcpN_le]
    have ht : n ≤ lcpN h s → (cutF1 h s).take n = h.take n := fun hn => by
      unfold cutF1; rw [List.take_take, Nat.min_eq_left hn]
    constructor
    · rintro ⟨⟨h1, h2, h3⟩, h4⟩
      have hn := (lcpN_le h s n).2 ⟨h1, h2, h3⟩
      refine ⟨h1, fun t hm => ?_⟩
      rcases List.mem_cons.1 hm with rfl | hm
      · exact ⟨h2, h3⟩
      · rw [← ht hn]; exact h4 t hm
    · rintro ⟨h1, h2⟩
      obtain ⟨h3, h4⟩ := h2 s (by simp)
      have hn := (lcpN_le h s n).2 ⟨h1, h3, h4⟩
      refine ⟨⟨h1, h3, h4⟩, fun t hm => ?_⟩
      rw [ht hn]
      exact h2 t (by simp [hm])

theorem fold_pre : ∀ (r : List (List UInt8)) (h : List UInt8), r.foldl cutF1 h = h.take (r.foldl cutF1 h).length
  | [], h => by simp
  | s :: r, h => by
    rw [List.foldl_cons]
    have e := fold_pre r (cutF1 h s)
    have hl : (r.foldl cutF1 (cutF1 h s)).length ≤ lcpN h s := by
      have := (fold_le r (cutF1 h s) _).1 (Nat.le_refl _)
      rw [cutF1_len] at this
      exact this.1
    have e2 : (cutF1 h s).take (r.foldl cutF1 (cutF1 h s)).length = h.take (r.foldl cutF1 (cutF1 h s)).length := by
      conv => lhs; arg 2; unfold cutF1
      rw [List.take_take, Nat.min_eq_left hl]
    exact e.trans e2
end Go.Proofs.YtgcbehapggfhmaaGreatDoor
