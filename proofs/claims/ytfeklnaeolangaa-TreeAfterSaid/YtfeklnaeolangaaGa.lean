/-
  Words of the plain functions as mathematics; rows of nodes.
-/
import Derived.Test.YtfeklnaeolangaaFa
namespace Go.Proofs.Ytfeklnaeolangaa
open Go.RowKit
set_option linter.unusedVariables false
set_option linter.unusedSimpArgs false

theorem addK_eq {a b : Int} (h1 : -9223372036854775808 ≤ a + b) (h2 : a + b ≤ 9223372036854775807) : addK .i64 a b = a + b := by
  unfold addK; rw [IntKind.wrap_i64]; omega
theorem subK_eq {a b : Int} (h1 : -9223372036854775808 ≤ a - b) (h2 : a - b ≤ 9223372036854775807) : subK .i64 a b = a - b := by
  unfold subK; rw [IntKind.wrap_i64]; omega
theorem leI_iff {a b : Int} : leI a b = true ↔ a ≤ b := by simp [leI]
theorem ltI_iff {a b : Int} : ltI a b = true ↔ a < b := by simp [ltI]
theorem eqI_iff {a b : Int} : eqI a b = true ↔ a = b := by simp [eqI]
theorem inI_iff {α : Type} {l : List α} {i : Int} : inI l i = true ↔ 0 ≤ i ∧ i < l.length := by simp [inI]
theorem ltL_iff {α : Type} {l : List α} {i : Nat} : ltL i l = true ↔ i < l.length := by simp [ltL, ltN]
theorem partI_iff {n lo hi : Int} : partI n lo hi = true ↔ 0 ≤ lo ∧ lo ≤ hi ∧ hi ≤ n := by simp [partI]

/-- the branches of a test -/
theorem bif_t {α : Type} {b : Bool} {x y : α} (h : b = true) : (bif b then x else y) = x := by rw [h]; rfl
theorem bif_f {α : Type} {b : Bool} {x y : α} (h : b = false) : (bif b then x else y) = y := by rw [h]; rfl
theorem leI_t {a b : Int} (h : a ≤ b) : leI a b = true := leI_iff.2 h
theorem leI_f {a b : Int} (h : b < a) : leI a b = false := by simp [leI]; omega
theorem ltI_t {a b : Int} (h : a < b) : ltI a b = true := ltI_iff.2 h
theorem ltI_f {a b : Int} (h : b ≤ a) : ltI a b = false := by simp [ltI]; omega
theorem leI_n {a b : Int} (h : ¬ a ≤ b) : leI a b = false := leI_f (by omega)
theorem ltI_n {a b : Int} (h : ¬ a < b) : ltI a b = false := ltI_f (by omega)
theorem eqI_t {a b : Int} (h : a = b) : eqI a b = true := eqI_iff.2 h
theorem eqI_f {a b : Int} (h : a ≠ b) : eqI a b = false := by simp [eqI]; exact h
theorem inI_t {α : Type} {l : List α} {i : Int} (h : 0 ≤ i) (h2 : i < l.length) : inI l i = true := inI_iff.2 ⟨h, h2⟩
theorem ltL_t {α : Type} {l : List α} {i : Nat} (h : i < l.length) : ltL i l = true := ltL_iff.2 h
theorem partI_t {n lo hi : Int} (h : 0 ≤ lo) (h1 : lo ≤ hi) (h2 : hi ≤ n) : partI n lo hi = true := partI_iff.2 ⟨h, h1, h2⟩
theorem lenI_eq {α : Type} {l : List α} : lenI l = (l.length : Int) := rfl
theorem big_fuel {n : Nat} (h : n < 1000000000000000000000000) : n < fuelN := by unfold fuelN; omega

abbrev Nd := Int × Int × Int × Int × Unit
abbrev nd (l : List Nd) (i : Int) : Nd := getI l (0, (0, (0, (0, ())))) i
abbrev Nd.kind (n : Nd) : Int := n.1
abbrev Nd.fro (n : Nd) : Int := n.2.1
abbrev Nd.too (n : Nd) : Int := n.2.2.1
abbrev Nd.up (n : Nd) : Int := n.2.2.2.1

/-- each node ahead of some is below an earlier one, or none -/
def upsOk (l : List Nd) (i : Int) : Prop := ∀ j : Int, 0 ≤ j → j < i → -1 ≤ (nd l j).up ∧ (nd l j).up < j

/-- a node and those above it -/
def ancN (l : List Nd) : Nat → Int → List Int
  | 0, _ => []
  | n + 1, b => if b < 0 then [] else b :: ancN l n (nd l b).up

theorem ancN_fuel {l : List Nd} {i : Int} (h : upsOk l i) : ∀ (n m : Nat) (b : Int), b < i → b < n → b < m → ancN l n b = ancN l m b
  | 0, 0, b, _, _, _ => rfl
  | 0, m + 1, b, _, h1, _ => by simp only [ancN]; rw [if_pos (by omega)]
  | n + 1, 0, b, _, _, h2 => by simp only [ancN]; rw [if_pos (by omega)]
  | n + 1, m + 1, b, hi, h1, h2 => by
    simp only [ancN]
    by_cases hb : b < 0
    · rw [if_pos hb, if_pos hb]
    · have := h b (by omega) hi
      rw [if_neg hb, if_neg hb, ancN_fuel h n m _ (by omega) (by omega) (by omega)]

def anc (l : List Nd) (b : Int) : List Int := ancN l (b + 1).toNat b

theorem anc_neg {l : List Nd} {b : Int} (h : b < 0) : anc l b = [] := by
  unfold anc
  rw [show (b + 1).toNat = 0 by omega]; rfl

theorem anc_cons {l : List Nd} {i b : Int} (h : upsOk l i) (h0 : 0 ≤ b) (h1 : b < i) : anc l b = b :: anc l (nd l b).up := by
  unfold anc
  rw [show (b + 1).toNat = b.toNat + 1 by omega]
  have := h b h0 h1
  simp only [ancN]
  rw [if_neg (by omega), ancN_fuel h _ ((nd l b).up + 1).toNat _ (by omega) (by omega) (by omega)]

theorem anc_mem {l : List Nd} {i : Int} (h : upsOk l i) : ∀ (n : Nat) (b a : Int), b < n → b < i → a ∈ anc l b → 0 ≤ a ∧ a ≤ b
  | 0, b, a, h1, _, hm => by rw [anc_neg (by omega)] at hm; cases hm
  | n + 1, b, a, h1, h2, hm => by
    by_cases hb : b < 0
    · rw [anc_neg hb] at hm; cases hm
    · rw [anc_cons h (by omega) h2] at hm
      rcases List.mem_cons.1 hm with rfl | hm
      · omega
      · have := h b (by omega) h2
        have := anc_mem h n _ a (by omega) (by omega) hm
        omega

theorem anc_drop {l : List Nd} {i : Int} (h : upsOk l i) : ∀ (n : Nat) (b u : Int), b < n → b < i → (anc l b).dropWhile (fun x => !(x == u)) = if u ∈ anc l b then anc l u else []
  | 0, b, u, h1, _ => by rw [anc_neg (by omega)]; rfl
  | n + 1, b, u, h1, h2 => by
    by_cases hb : b < 0
    · rw [anc_neg hb]; rfl
    · have := h b (by omega) h2
      rw [anc_cons h (by omega) h2, List.dropWhile_cons]
      by_cases e : b = u
      · subst e
        simp [anc_cons h (by omega) h2]
      · rw [if_pos (by simpa using e), anc_drop h n _ u (by omega) (by omega)]
        by_cases hm : u ∈ anc l (nd l b).up
        · rw [if_pos hm, if_pos (List.mem_cons_of_mem _ hm)]
        · rw [if_neg hm, if_neg (by intro h'; rcases List.mem_cons.1 h' with h' | h'; exact e h'.symm; exact hm h')]

/-! ### Above -/

theorem lp18 {l : List Nd} {i : Int} (h : upsOk l i) (hi : i ≤ l.length) (a : Int) : ∀ (n N : Nat) (b : Int), b < n → n < N → b < i →
    lp18_1 N l a b = some (if a ∈ anc l b then .inr ((true, ()), ()) else .inl ((), ()))
  | n, 0, b, _, h2, _ => by omega
  | n, N + 1, b, h1, h2, h3 => by
    rw [lp18_1, st18_1]
    by_cases hb : b < 0
    · rw [bif_f (leI_f hb), anc_neg hb]; rfl
    · rw [bif_t (leI_t (by omega)), anc_cons h (by omega) h3]
      by_cases e : a = b
      · rw [bif_t (eqI_t e)]; subst e; simp
      · have := h b (by omega) h3
        rw [bif_f (eqI_f e), bif_t (inI_t (by omega) (by omega))]
        obtain _ | n := n
        · omega
        have := lp18 h hi a n N (nd l b).up (by omega) (by omega) (by omega)
        refine Eq.trans this ?_
        have hm : (a ∈ b :: anc l (nd l b).up) ↔ a ∈ anc l (nd l b).up := by simp [e]
        simp only [hm]

theorem fn18_eq {l : List Nd} {i : Int} (h : upsOk l i) (hi : i ≤ l.length) (hl : l.length < 1000000000000) (a b : Int) (hb : b < i) : fn18 l a b = some (decide (a ∈ anc l b), ()) := by
  rw [fn18, lp18 h hi a (b + 1).toNat fuelN b (by omega) (big_fuel (by omega)) hb]
  by_cases hm : a ∈ anc l b
  · simp [hm, obind, osum]
  · simp [hm, obind, osum]
end Go.Proofs.Ytfeklnaeolangaa
