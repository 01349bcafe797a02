/-
  Words of the plain functions as mathematics; rows of nodes; right trees.
-/
import Derived.Test.YtnmaceljkegenaaDoorFa
namespace Go.Proofs.YtnmaceljkegenaaDoor
open Go.RowKit
set_option linter.unusedVariables false
set_option linter.unusedSimpArgs false

theorem addK_eq {a b : Int} (h1 : -9223372036854775808 ≤ a + b) (h2 : a + b ≤ 9223372036854775807) : addK .i64 a b = a + b := by
  unfold addK; rw [IntKind.wrap_i64]; omega
theorem subK_eq {a b : Int} (h1 : -9223372036854775808 ≤ a - b) (h2 : a - b ≤ 9223372036854775807) : subK .i64 a b = a - b := by
  unfold subK; rw [IntKind.wrap_i64]; omega
theorem leI_iff {a b : Int} : leI a b = true ↔ a ≤ b := by simp [leI]
theorem ltI_iff {a b : Int} : ltI a b = true ↔ a < b := by simp [ltI]
theorem eqI_iff {a b : Int} : eqI a b = true ↔ a = b := by simp [eqI]
theorem inI_iff {α : Type} {l : List α} {i : Int} : inI l i = true ↔ 0 ≤ i ∧ i < l.length := by simp [inI]
theorem ltL_iff {α : Type} {l : List α} {i : Nat} : ltL i l = true ↔ i < l.length := by simp [ltL, ltN]
theorem partI_iff {n lo hi : Int} : partI n lo hi = true ↔ 0 ≤ lo ∧ lo ≤ hi ∧ hi ≤ n := by simp [partI]

/-- the branches of a test -/
theorem bif_t {α : Type} {b : Bool} {x y : α} (h : b = true) : (bif b then x else y) = x := by rw [h]; rfl
theorem bif_f {α : Type} {b : Bool} {x y : α} (h : b = false) : (bif b then x else y) = y := by rw [h]; rfl
theorem leI_t {a b : Int} (h : a ≤ b) : leI a b = true := leI_iff.2 h
theorem leI_f {a b : Int} (h : b < a) : leI a b = false := by simp [leI]; omega
theorem ltI_t {a b : Int} (h : a < b) : ltI a b = true := ltI_iff.2 h
theorem ltI_f {a b : Int} (h : b ≤ a) : ltI a b = false := by simp [ltI]; omega
theorem leI_n {a b : Int} (h : ¬ a ≤ b) : leI a b = false := leI_f (by omega)
theorem ltI_n {a b : Int} (h : ¬ a < b) : ltI a b = false := ltI_f (by omega)
theorem eqI_t {a b : Int} (h : a = b) : eqI a b = true := eqI_iff.2 h
theorem eqI_f {a b : Int} (h : a ≠ b) : eqI a b = false := by simp [eqI]; exact h
theorem inI_t {α : Type} {l : List α} {i : Int} (h : 0 ≤ i) (h2 : i < l.length) : inI l i = true := inI_iff.2 ⟨h, h2⟩
theorem ltL_t {α : Type} {l : List α} {i : Nat} (h : i < l.length) : ltL i l = true := ltL_iff.2 h
theorem partI_t {n lo hi : Int} (h : 0 ≤ lo) (h1 : lo ≤ hi) (h2 : hi ≤ n) : partI n lo hi = true := partI_iff.2 ⟨h, h1, h2⟩
theorem lenI_eq {α : Type} {l : List α} : lenI l = (l.length : Int) := rfl
theorem big_fuel {n : Nat} (h : n < 1000000000000000000000000) : n < fuelN := by unfold fuelN; omega

abbrev Nd := Int × Int × Int × Int × Unit
abbrev nd (l : List Nd) (i : Int) : Nd := getI l (0, (0, (0, (0, ())))) i
abbrev Nd.kind (n : Nd) : Int := n.1
abbrev Nd.fro (n : Nd) : Int := n.2.1
abbrev Nd.too (n : Nd) : Int := n.2.2.1
abbrev Nd.up (n : Nd) : Int := n.2.2.2.1

/-- each node ahead of some is below an earlier one, or none -/
def upsOk (l : List Nd) (i : Int) : Prop := ∀ j : Int, 0 ≤ j → j < i → -1 ≤ (nd l j).up ∧ (nd l j).up < j

/-- a node and those above it -/
def ancN (l : List Nd) : Nat → Int → List Int
  | 0, _ => []
  | n + 1, b => if b < 0 then [] else b :: ancN l n (nd l b).up

theorem ancN_fuel {l : List Nd} {i : Int} (h : upsOk l i) : ∀ (n m : Nat) (b : Int), b < i → b < n → b < m → ancN l n b = ancN l m b
  | 0, 0, b, _, _, _ => rfl
  | 0, m + 1, b, _, h1, _ => by simp only [ancN]; rw [if_pos (by omega)]
  | n + 1, 0, b, _, _, h2 => by simp only [ancN]; rw [if_pos (by omega)]
  | n + 1, m + 1, b, hi, h1, h2 => by
    simp only [ancN]
    by_cases hb : b < 0
    · rw [if_pos hb, if_pos hb]
    · have := h b (by omega) hi
      rw [if_neg hb, if_neg hb, ancN_fuel h n m _ (by omega) (by omega) (by omega)]

def anc (l : List Nd) (b : Int) : List Int := ancN l (b + 1).toNat b

theorem anc_neg {l : List Nd} {b : Int} (h : b < 0) : anc l b = [] := by
  unfold anc
  rw [show (b + 1).toNat = 0 by omega]; rfl

theorem anc_cons {l : List Nd} {i b : Int} (h : upsOk l i) (h0 : 0 ≤ b) (h1 : b < i) : anc l b = b :: anc l (nd l b).up := by
  unfold anc
  rw [show (b + 1).toNat = b.toNat + 1 by omega]
  have := h b h0 h1
  simp only [ancN]
  rw [if_neg (by omega), ancN_fuel h _ ((nd l b).up + 1).toNat _ (by omega) (by omega) (by omega)]

theorem anc_mem {l : List Nd} {i : Int} (h : upsOk l i) : ∀ (n : Nat) (b a : Int), b < n → b < i → a ∈ anc l b → 0 ≤ a ∧ a ≤ b
  | 0, b, a, h1, _, hm => by rw [anc_neg (by omega)] at hm; cases hm
  | n + 1, b, a, h1, h2, hm => by
    by_cases hb : b < 0
    · rw [anc_neg hb] at hm; cases hm
    · rw [anc_cons h (by omega) h2] at hm
      rcases List.mem_cons.1 hm with rfl | hm
      · omega
      · have := h b (by omega) h2
        have := anc_mem h n _ a (by omega) (by omega) hm
        omega

theorem anc_drop {l : List Nd} {i : Int} (h : upsOk l i) : ∀ (n : Nat) (b u : Int), b < n → b < i → (anc l b).dropWhile (fun x => !(x == u)) = if u ∈ anc l b then anc l u else []
  | 0, b, u, h1, _ => by rw [anc_neg (by omega)]; rfl
  | n + 1, b, u, h1, h2 => by
    by_cases hb : b < 0
    · rw [anc_neg hb]; rfl
    · have := h b (by omega) h2
      rw [anc_cons h (by omega) h2, List.dropWhile_cons]
      by_cases e : b = u
      · subst e
        simp [anc_cons h (by omega) h2]
      · rw [if_pos (by simpa using e), anc_drop h n _ u (by omega) (by omega)]
        by_cases hm : u ∈ anc l (nd l b).up
        · rw [if_pos hm, if_pos (List.mem_cons_of_mem _ hm)]
        · rw [if_neg hm, if_neg (by intro h'; rcases List.mem_cons.1 h' with h' | h'; exact e h'.symm; exact hm h')]

/-! ### Above -/

theorem lp18 {l : List Nd} {i : Int} (h : upsOk l i) (hi : i ≤ l.length) (a : Int) : ∀ (n N : Nat) (b : Int), b < n → n < N → b < i →
    lp14_1 N l a b = some (if a ∈ anc l b then .inr ((true, ()), ()) else .inl ((), ()))
  | n, 0, b, _, h2, _ => by omega
  | n, N + 1, b, h1, h2, h3 => by
    rw [lp14_1, st14_1]
    by_cases hb : b < 0
    · rw [bif_f (leI_f hb), anc_neg hb]; rfl
    · rw [bif_t (leI_t (by omega)), anc_cons h (by omega) h3]
      by_cases e : a = b
      · rw [bif_t (eqI_t e)]; subst e; simp
      · have := h b (by omega) h3
        rw [bif_f (eqI_f e), bif_t (inI_t (by omega) (by omega))]
        obtain _ | n := n
        · omega
        have := lp18 h hi a n N (nd l b).up (by omega) (by omega) (by omega)
        refine Eq.trans this ?_
        have hm : (a ∈ b :: anc l (nd l b).up) ↔ a ∈ anc l (nd l b).up := by simp [e]
        simp only [hm]

theorem fn18_eq {l : List Nd} {i : Int} (h : upsOk l i) (hi : i ≤ l.length) (hl : l.length < 1000000000000) (a b : Int) (hb : b < i) : fn14 l a b = some (decide (a ∈ anc l b), ()) := by
  rw [fn14, lp18 h hi a (b + 1).toNat fuelN b (by omega) (big_fuel (by omega)) hb]
  by_cases hm : a ∈ anc l b
  · simp [hm, obind, osum]
  · simp [hm, obind, osum]

/-- is a node right, those ahead of it being so? -/
def okAt (l : List Nd) (i : Int) : Prop :=
  1 ≤ (nd l i).kind ∧ (nd l i).kind ≤ 18 ∧ (nd l i).fro ≤ (nd l i).too ∧ (i ≠ 0 → 0 ≤ (nd l i).up ∧ (nd l i).up < i ∧ (nd l i).up ∈ anc l (i - 1) ∧
    (nd l (nd l i).up).fro ≤ (nd l i).fro ∧ (nd l i).too ≤ (nd l (nd l i).up).too ∧ ∀ k, 1 ≤ k → k < i → (nd l k).up = (nd l i).up → (nd l k).too ≤ (nd l i).fro)

def okTo (l : List Nd) (i : Int) : Prop := ∀ j, 0 ≤ j → j < i → okAt l j

theorem okTo.ups {l : List Nd} {i : Int} (h : okTo l i) (h0 : (nd l 0).up = -1) : upsOk l i := fun j h1 h2 => by
  by_cases e : j = 0
  · subst e; rw [h0]; omega
  · obtain ⟨_, _, _, h3⟩ := h j h1 h2
    have := h3 e
    omega

theorem okTo.succ {l : List Nd} {i : Int} (h : okTo l i) (hi : okAt l i) : okTo l (i + 1) := fun j h1 h2 => by
  by_cases e : j = i
  · subst e; exact hi
  · exact h j h1 (by omega)

theorem okTo.fro {l : List Nd} {i : Int} (h : okTo l i) (h0 : (nd l 0).fro = 0) : ∀ (n : Nat) (j : Int), j < n → 0 ≤ j → j < i → 0 ≤ (nd l j).fro
  | 0, j, h1, h2, _ => by omega
  | n + 1, j, h1, h2, h3 => by
    by_cases e : j = 0
    · subst e; rw [h0]; omega
    · obtain ⟨_, _, _, h4⟩ := h j h2 h3
      obtain ⟨h5, h6, _, h7, _⟩ := h4 e
      have := okTo.fro h h0 n (nd l j).up (by omega) h5 (by omega)
      omega

/-! ### the document's -/

theorem lp12 {l : List Nd} {i : Int} (h0 : 0 ≤ i) (hi : i < l.length) (hl : l.length < 1000000000000) (u : Int) : ∀ (n N : Nat) (k : Int), i - k < n → n < N → 1 ≤ k → k ≤ i →
    ((∀ j, k ≤ j → j < i → (nd l j).up = u → (nd l j).too ≤ (nd l i).fro) ∧ lp6_13 N l i u k = some (.inl ((l, i, ()), ()))) ∨
    (¬(∀ j, k ≤ j → j < i → (nd l j).up = u → (nd l j).too ≤ (nd l i).fro) ∧ lp6_13 N l i u k = some (.inr ((false, ()), ())))
  | n, 0, k, _, h2, _, _ => by omega
  | 0, N + 1, k, h1, h2, h3, h4 => by omega
  | n + 1, N + 1, k, h1, h2, h3, h4 => by
    rw [lp6_13, st6_13]
    by_cases e : k < i
    · rw [bif_t (ltI_t e), bif_t (inI_t (by omega) (by omega))]
      have ea : addK .i64 k 1 = k + 1 := addK_eq (by omega) (by omega)
      by_cases hu : (nd l k).up = u
      · rw [bif_t (eqI_t hu), bif_t (inI_t (by omega) (by omega)), bif_t (inI_t (by omega) (by omega))]
        by_cases hw : (nd l i).fro < (nd l k).too
        · rw [bif_t (ltI_t hw)]
          exact .inr ⟨fun hA => by have := hA k (by omega) e hu; omega, rfl⟩
        · rw [bif_f (ltI_n hw), ea]
          rcases lp12 h0 hi hl u n N (k + 1) (by omega) (by omega) (by omega) (by omega) with ⟨h5, h6⟩ | ⟨h5, h6⟩
          · refine .inl ⟨fun j a b c => ?_, h6⟩
            by_cases ej : j = k
            · subst ej; omega
            · exact h5 j (by omega) b c
          · exact .inr ⟨fun hA => h5 fun j a b c => hA j (by omega) b c, h6⟩
      · rw [bif_f (eqI_f hu), ea]
        rcases lp12 h0 hi hl u n N (k + 1) (by omega) (by omega) (by omega) (by omega) with ⟨h5, h6⟩ | ⟨h5, h6⟩
        · refine .inl ⟨fun j a b c => ?_, h6⟩
          by_cases ej : j = k
          · subst ej; exact absurd c hu
          · exact h5 j (by omega) b c
        · exact .inr ⟨fun hA => h5 fun j a b c => hA j (by omega) b c, h6⟩
    · rw [bif_f (ltI_f (by omega))]
      exact .inl ⟨fun j a b c => by omega, rfl⟩

theorem key12 {l : List Nd} {i : Int} (h0 : 0 ≤ i) (hi : i < l.length) (hl : l.length < 1000000000000) (hup : (nd l 0).up = -1) (hok : okTo l i) (N : Nat) :
    (okAt l i ∧ lp6_4 (N + 1) l i = lp6_4 N l (i + 1)) ∨ (¬ okAt l i ∧ lp6_4 (N + 1) l i = some (.inr ((false, ()), ()))) := by
  have hin : inI l i = true := inI_t h0 hi
  have ea : addK .i64 i 1 = i + 1 := addK_eq (by omega) (by omega)
  rw [lp6_4, st6_4, bif_t (ltI_t (b := lenI l) (by rw [lenI_eq]; omega)), bif_t hin]
  by_cases c1 : (nd l i).kind < 1
  · rw [bif_t (ltI_t c1)]; exact .inr ⟨fun h => by have := h.1; omega, rfl⟩
  rw [bif_f (ltI_n c1), bif_t hin]
  by_cases c2 : 18 < (nd l i).kind
  · rw [bif_t (ltI_t c2)]; exact .inr ⟨fun h => by have := h.2.1; omega, rfl⟩
  rw [bif_f (ltI_n c2), bif_t hin, bif_t hin]
  by_cases c3 : (nd l i).too < (nd l i).fro
  · rw [bif_t (ltI_t c3)]; exact .inr ⟨fun h => by have := h.2.2.1; omega, rfl⟩
  rw [bif_f (ltI_n c3)]
  by_cases c4 : i = 0
  · rw [bif_t (eqI_t c4), ea]
    exact .inl ⟨⟨by omega, by omega, by omega, fun h => absurd c4 h⟩, rfl⟩
  rw [bif_f (eqI_f c4), bif_t hin]
  by_cases c5 : (nd l i).up < 0
  · rw [bif_t (ltI_t c5)]; exact .inr ⟨fun h => by have := (h.2.2.2 c4).1; omega, rfl⟩
  rw [bif_f (ltI_n c5)]
  by_cases c6 : i ≤ (nd l i).up
  · rw [bif_t (leI_t c6)]; exact .inr ⟨fun h => by have := (h.2.2.2 c4).2.1; omega, rfl⟩
  have es : subK .i64 i 1 = i - 1 := subK_eq (by omega) (by omega)
  rw [bif_f (leI_n c6), es, fn18_eq (hok.ups hup) (by omega) hl _ _ (by omega), obind_some]
  by_cases c7 : (nd l i).up ∈ anc l (i - 1)
  · have hin2 : inI l (nd l i).up = true := inI_t (by omega) (by omega)
    rw [bif_f (by simp [c7]), bif_t hin, bif_t hin2]
    by_cases c8 : (nd l i).fro < (nd l (nd l i).up).fro
    · rw [bif_t (ltI_t c8)]; exact .inr ⟨fun h => by have := (h.2.2.2 c4).2.2.2.1; omega, rfl⟩
    rw [bif_f (ltI_n c8), bif_t hin, bif_t hin2]
    by_cases c9 : (nd l (nd l i).up).too < (nd l i).too
    · rw [bif_t (ltI_t c9)]; exact .inr ⟨fun h => by have := (h.2.2.2 c4).2.2.2.2.1; omega, rfl⟩
    rw [bif_f (ltI_n c9)]
    rcases lp12 h0 hi hl (nd l i).up i.toNat fuelN 1 (by omega) (big_fuel (by omega)) (by omega) (by omega) with ⟨h5, h6⟩ | ⟨h5, h6⟩
    · rw [h6, obind_some]
      refine .inl ⟨⟨by omega, by omega, by omega, fun _ => ⟨by omega, by omega, c7, by omega, by omega, h5⟩⟩, ?_⟩
      simp only [osum, ea]
    · rw [h6, obind_some]
      exact .inr ⟨fun h => h5 (h.2.2.2 c4).2.2.2.2.2, rfl⟩
  · rw [bif_t (by simp [c7])]
    exact .inr ⟨fun h => c7 (h.2.2.2 c4).2.2.1, rfl⟩

theorem all12 {l : List Nd} (hl : l.length < 1000000000000) (hup : (nd l 0).up = -1) : ∀ (n N : Nat) (i : Int), l.length - i < n → n < N → 0 ≤ i → i ≤ l.length → okTo l i →
    (okTo l l.length ∧ lp6_4 N l i = some (.inl ((), ()))) ∨ (¬ okTo l l.length ∧ lp6_4 N l i = some (.inr ((false, ()), ())))
  | 0, _, i, h1, h2, h3, h4, _ => by omega
  | n + 1, 0, i, h1, h2, h3, h4, _ => by omega
  | n + 1, N + 1, i, h1, h2, h3, h4, hok => by
    by_cases e : i = l.length
    · subst e
      rw [lp6_4, st6_4, bif_f (ltI_f (a := (l.length : Int)) (b := lenI l) (by rw [lenI_eq]; omega))]
      exact .inl ⟨hok, rfl⟩
    · rcases key12 h3 (by omega) hl hup hok N with ⟨h5, h6⟩ | ⟨h5, h6⟩
      · rw [h6]
        exact all12 hl hup n N (i + 1) (by omega) (by omega) (by omega) (by omega) (hok.succ h5)
      · exact .inr ⟨fun h => h5 (h i h3 (by omega)), h6⟩

/-- a right tree -/
def Rt (l : List Nd) (leaves : Int) : Prop := l ≠ [] ∧ (nd l 0).up = -1 ∧ (nd l 0).fro = 0 ∧ (nd l 0).too = leaves ∧ okTo l l.length

theorem fn12_eq {l : List Nd} (hl : l.length < 1000000000000) (leaves : Int) : (Rt l leaves ∧ fn6 l leaves = some (true, ())) ∨ (¬ Rt l leaves ∧ fn6 l leaves = some (false, ())) := by
  rw [fn6]
  by_cases c0 : l = []
  · subst c0
    exact .inr ⟨fun h => h.1 rfl, rfl⟩
  have hpos : 0 < l.length := List.length_pos_iff.2 c0
  have hin : inI l 0 = true := inI_t (by omega) (by omega)
  rw [bif_f (eqI_f (by rw [lenI_eq]; omega)), bif_t hin]
  by_cases c1 : (nd l 0).up = -1
  · rw [bif_f (by rw [eqI_t c1]; rfl), bif_t hin]
    by_cases c2 : (nd l 0).fro = 0
    · rw [bif_f (by rw [eqI_t c2]; rfl), bif_t hin]
      by_cases c3 : (nd l 0).too = leaves
      · rw [bif_f (by rw [eqI_t c3]; rfl)]
        rcases all12 hl c1 (l.length + 1) fuelN 0 (by omega) (big_fuel (by omega)) (by omega) (by omega) (fun j a b => by omega) with ⟨h5, h6⟩ | ⟨h5, h6⟩
        · rw [h6]; exact .inl ⟨⟨c0, c1, c2, c3, h5⟩, rfl⟩
        · rw [h6]; exact .inr ⟨fun h => h5 h.2.2.2.2, rfl⟩
      · rw [bif_t (by rw [eqI_f c3]; rfl)]; exact .inr ⟨fun h => c3 h.2.2.2.1, rfl⟩
    · rw [bif_t (by rw [eqI_f c2]; rfl)]; exact .inr ⟨fun h => c2 h.2.2.1, rfl⟩
  · rw [bif_t (by rw [eqI_f c1]; rfl)]; exact .inr ⟨fun h => c1 h.2.1, rfl⟩

theorem nth_last {s : List Int} {x : Int} : nthN (s.reverse ++ [x]) 0 (natI (s.length : Int)) = x := by
  simp [nthN, natI, List.getD]

theorem lp11p {l : List Nd} {i c f t u : Int} {e : List Int} : ∀ (s : List Int) (N : Nat), s.length < N → s.length < 1000000000000 →
    lp10_9 N l i c f t u e s.reverse = some (.inl ((l, i, ()), (c, f, t, u, ()), e, (s.dropWhile (fun x => !(x == u))).reverse, ()))
  | s, 0, h, _ => by omega
  | [], N + 1, _, _ => by
    rw [lp10_9, st10_9, bif_f (ltI_f (a := 0) (b := lenI ([] : List Int).reverse) (by simp [lenI]))]
    rfl
  | x :: s, N + 1, h, h2 => by
    simp only [List.length_cons] at h h2
    have el : lenI (x :: s).reverse = ((s.length : Int) + 1) := by simp [lenI]
    have es : subK .i64 ((s.length : Int) + 1) 1 = (s.length : Int) := by rw [subK_eq (by omega) (by omega)]; omega
    have ex : nthN (x :: s).reverse 0 (natI (s.length : Int)) = x := by rw [List.reverse_cons]; exact nth_last
    rw [lp10_9, st10_9, el, es, bif_t (ltI_t (by omega)), bif_t (inI_t (by omega) (by simp; omega)), bif_t (ltL_t (by simp [natI])), ex, List.dropWhile_cons]
    by_cases hx : x = u
    · rw [bif_f (by rw [eqI_t hx]; rfl), if_neg (by simpa using hx)]
    · rw [bif_t (by rw [eqI_f hx]; rfl), bif_t (partI_t (by omega) (by omega) (by omega)), if_pos (by simpa using hx)]
      have et : takeN (x :: s).reverse (natI (s.length : Int)) = s.reverse := by
        rw [List.reverse_cons, takeN, natI, Int.toNat_natCast, List.take_append_of_le_length (by simp)]
        exact List.take_of_length_le (by simp)
      rw [et]
      exact lp11p s N (by omega) (by omega)

/-- where the last kid of a node ends, of those ahead of a node -/
def lastTo (l : List Nd) : Nat → Int → Int
  | 0, _ => 0
  | i + 1, u => if 1 ≤ i ∧ (nd l (i : Int)).up = u then (nd l (i : Int)).too else lastTo l i u

theorem lastTo_ge {l : List Nd} : ∀ (i : Nat) (u k : Int), okTo l i → 1 ≤ k → k < i → (nd l k).up = u → (nd l k).too ≤ lastTo l i u
  | 0, u, k, _, h1, h2, _ => by omega
  | i + 1, u, k, h, h1, h2, h3 => by
    simp only [lastTo]
    by_cases c : 1 ≤ i ∧ (nd l (i : Int)).up = u
    · rw [if_pos c]
      by_cases e : k = i
      · subst e; omega
      · obtain ⟨_, _, h5, h4⟩ := h i (by omega) (by omega)
        obtain ⟨_, _, _, _, _, h6⟩ := h4 (by omega)
        have := h6 k h1 (by omega) (by rw [h3, c.2])
        omega
    · rw [if_neg c]
      have e : k ≠ i := fun e => c ⟨by omega, by rw [← e]; exact h3⟩
      exact lastTo_ge i u k (fun j a b => h j a (by omega)) h1 (by omega) h3

theorem lastTo_is {l : List Nd} : ∀ (i : Nat) (u : Int), lastTo l i u = 0 ∨ ∃ k : Int, 1 ≤ k ∧ k < i ∧ (nd l k).up = u ∧ lastTo l i u = (nd l k).too
  | 0, u => .inl rfl
  | i + 1, u => by
    simp only [lastTo]
    by_cases c : 1 ≤ i ∧ (nd l (i : Int)).up = u
    · rw [if_pos c]; exact .inr ⟨i, by omega, by omega, c.2, rfl⟩
    · rw [if_neg c]
      rcases lastTo_is i u with h | ⟨k, h1, h2, h3, h4⟩
      · exact .inl h
      · exact .inr ⟨k, h1, by omega, h3, h4⟩

/-- the ends that Check keeps -/
def endsOk (l : List Nd) (i : Nat) (e : List Int) : Prop := e.length = l.length ∧ ∀ u : Nat, u < l.length → e.getD u 0 = lastTo l i (u : Int)

theorem endsOk.set {l : List Nd} {i : Nat} {e : List Int} (h : endsOk l i e) (h1 : 1 ≤ i) {u : Nat} (hu : (nd l (i : Int)).up = (u : Int)) (hul : u < l.length) : endsOk l (i + 1) (setI e u (nd l (i : Int)).too) := by
  refine ⟨by simp [setI, h.1], fun w hw => ?_⟩
  simp only [lastTo, setI]
  by_cases c : w = u
  · subst c
    rw [if_pos ⟨h1, hu⟩]
    simp [List.getD, h.1, hul]
  · rw [if_neg (fun h' => c (by have := h'.2; omega)), ← h.2 w hw]
    simp [List.getD, List.getElem?_set, Ne.symm c]

theorem key11 {l : List Nd} {i : Nat} (h1 : 1 ≤ i) (hi : i < l.length) (hl : l.length < 1000000000000) (hup : (nd l 0).up = -1) (hfr : (nd l 0).fro = 0) (hok : okTo l i) {e : List Int} (he : endsOk l i e) (N : Nat) :
    (okAt l i ∧ ∃ e', endsOk l (i + 1) e' ∧ lp10_6 (N + 1) l i e (anc l (i - 1)).reverse = lp10_6 N l (i + 1 : Nat) e' (anc l i).reverse) ∨
    (¬ okAt l i ∧ lp10_6 (N + 1) l i e (anc l (i - 1)).reverse = some (.inr ((false, ()), ()))) := by
  have hups := hok.ups hup
  have hin : inI l (i : Int) = true := inI_t (by omega) (by omega)
  have ea : addK .i64 (i : Int) 1 = ((i + 1 : Nat) : Int) := by rw [addK_eq (by omega) (by omega)]; rfl
  have hi0 : (i : Int) ≠ 0 := by omega
  have hlen : ∀ (n : Nat) (b : Int), b < n → b < i → (anc l b).length ≤ (b + 1).toNat := by
    intro n
    induction n with
    | zero => intro b hb _; rw [anc_neg (by omega)]; simp
    | succ n ih =>
      intro b hb hb2
      by_cases c : b < 0
      · rw [anc_neg c]; simp
      · have := hups b (by omega) hb2
        rw [anc_cons hups (by omega) hb2]
        have := ih (nd l b).up (by omega) (by omega)
        simp only [List.length_cons]; omega
  have hlen1 := hlen i (i - 1) (by omega) (by omega)
  rw [lp10_6, st10_6, bif_t (ltI_t (b := lenI l) (by rw [lenI_eq]; omega)), bif_t hin, lp11p _ _ (big_fuel (by omega)) (by omega), obind_some, anc_drop hups i _ _ (by omega) (by omega)]
  simp only [osum]
  by_cases c1 : (nd l i).up ∈ anc l (i - 1)
  · have hr := anc_mem hups i _ _ (by omega) (by omega) c1
    obtain ⟨hr1, hr2⟩ := hr
    rw [if_pos c1]
    have hne : lenI (anc l (nd l i).up).reverse ≠ 0 := by
      rw [anc_cons hups hr1 (by omega)]; simp [lenI]; omega
    rw [bif_f (eqI_f hne)]
    have hf : ∀ n : Nd, fn17 n = some (leI 1 n.kind && (leI n.kind 18 && leI n.fro n.too), ()) := fun n => by
      rw [fn17]
      cases leI 1 n.1 <;> cases leI n.1 18 <;> rfl
    rw [hf, obind_some]
    by_cases c2 : 1 ≤ (nd l i).kind ∧ (nd l i).kind ≤ 18 ∧ (nd l i).fro ≤ (nd l i).too
    · have hb : (leI 1 (nd l i).kind && (leI (nd l i).kind 18 && leI (nd l i).fro (nd l i).too)) = true := by rw [leI_t c2.1, leI_t c2.2.1, leI_t c2.2.2]; rfl
      have hin2 : inI l (nd l i).up = true := inI_t hr1 (by omega)
      obtain ⟨u, hu⟩ : ∃ u : Nat, (nd l (i : Int)).up = (u : Int) := ⟨(nd l i).up.toNat, by omega⟩
      have hin3 : inI e (nd l i).up = true := inI_t hr1 (by rw [he.1]; omega)
      have hul : u < l.length := by omega
      have hnat : natI (nd l i).up = u := by rw [hu]; rfl
      have hltl : ltL (natI (nd l i).up) e = true := ltL_t (by rw [hnat, he.1]; omega)
      have hlast : nthN e 0 (natI (nd l i).up) = lastTo l i (nd l i).up := by rw [hnat, nthN, he.2 u hul, hu]
      rw [bif_f (by simp only [hb]; rfl), bif_t hin2, bif_t hin3, bif_t hltl]
      have hfu := hok.fro hfr i (nd l i).up (by omega) hr1 (by omega)
      have hmax : ((nd l i).fro < maxI (nd l (nd l i).up).fro (nthN e 0 (natI (nd l i).up))) ↔ ((nd l i).fro < (nd l (nd l i).up).fro ∨ (nd l i).fro < lastTo l i (nd l i).up) := by
        rw [hlast, maxI]; split <;> omega
      by_cases c3 : (nd l i).fro < maxI (nd l (nd l i).up).fro (nthN e 0 (natI (nd l i).up))
      · rw [bif_t (ltI_t c3)]
        refine .inr ⟨fun h => ?_, rfl⟩
        obtain ⟨_, _, _, h4⟩ := h
        obtain ⟨_, _, _, h5, _, h6⟩ := h4 hi0
        rcases hmax.1 c3 with h7 | h7
        · omega
        · rcases lastTo_is (l := l) i (nd l i).up with h8 | ⟨k, k1, k2, k3, k4⟩
          · omega
          · have := h6 k k1 k2 k3; omega
      · rw [bif_f (ltI_n c3), bif_t hin2]
        have h9 : ¬ ((nd l i).fro < (nd l (nd l i).up).fro ∨ (nd l i).fro < lastTo l i (nd l i).up) := fun h => c3 (hmax.2 h)
        by_cases c4 : (nd l (nd l i).up).too < (nd l i).too
        · rw [bif_t (ltI_t c4)]
          exact .inr ⟨fun h => by have := (h.2.2.2 hi0).2.2.2.2.1; omega, rfl⟩
        · rw [bif_f (ltI_n c4), bif_t hin3, bif_t hltl]
          have hcat : catL (anc l (nd l i).up).reverse [(i : Int)] = (anc l i).reverse := by
            have hups' : upsOk l (i + 1) := fun j a b => by
              by_cases e : j = i
              · subst e; omega
              · exact hups j a (by omega)
            rw [anc_cons (b := (i : Int)) hups' (by omega) (by omega), List.reverse_cons]; rfl
          have hlen2 := hlen i (nd l i).up (by omega) (by omega)
          rw [hcat]
          have hfit : fitI (anc l i).reverse 8 = true := by
            rw [← hcat]; simp only [fitI, catL, roomN, decide_eq_true_eq, List.length_append, List.length_reverse, List.length_singleton]; omega
          rw [bif_t hfit, ea, hnat]
          refine .inl ⟨⟨c2.1, c2.2.1, c2.2.2, fun _ => ⟨hr1, by omega, c1, by omega, by omega, fun k k1 k2 k3 => ?_⟩⟩, _, he.set h1 hu hul, rfl⟩
          have := lastTo_ge i (nd l i).up k hok k1 (by omega) k3
          omega
    · have hb : (leI 1 (nd l i).kind && (leI (nd l i).kind 18 && leI (nd l i).fro (nd l i).too)) = false := by
        cases h : (leI 1 (nd l i).kind && (leI (nd l i).kind 18 && leI (nd l i).fro (nd l i).too))
        · rfl
        · simp only [Bool.and_eq_true, leI_iff] at h; exact absurd h c2
      rw [bif_t (by simp only [hb]; rfl)]
      exact .inr ⟨fun h => c2 ⟨h.1, h.2.1, h.2.2.1⟩, rfl⟩
  · rw [if_neg c1, bif_t (eqI_t (by simp [lenI]))]
    exact .inr ⟨fun h => c1 (h.2.2.2 hi0).2.2.1, rfl⟩

theorem all11 {l : List Nd} (hl : l.length < 1000000000000) (hup : (nd l 0).up = -1) (hfr : (nd l 0).fro = 0) : ∀ (n N i : Nat) (e : List Int), l.length - i < n → n < N → 1 ≤ i → i ≤ l.length → okTo l i → endsOk l i e →
    (okTo l l.length ∧ lp10_6 N l i e (anc l (i - 1)).reverse = some (.inl ((), ()))) ∨ (¬ okTo l l.length ∧ lp10_6 N l i e (anc l (i - 1)).reverse = some (.inr ((false, ()), ())))
  | 0, _, i, e, h1, h2, h3, h4, _, _ => by omega
  | n + 1, 0, i, e, h1, h2, h3, h4, _, _ => by omega
  | n + 1, N + 1, i, e, h1, h2, h3, h4, hok, he => by
    by_cases c : i = l.length
    · subst c
      rw [lp10_6, st10_6, bif_f (ltI_f (a := (l.length : Int)) (b := lenI l) (by rw [lenI_eq]; omega))]
      exact .inl ⟨hok, rfl⟩
    · rcases key11 h3 (by omega) hl hup hfr hok he N with ⟨h5, e', h7, h6⟩ | ⟨h5, h6⟩
      · rw [h6]
        have := all11 hl hup hfr n N (i + 1) e' (by omega) (by omega) (by omega) (by omega) (hok.succ h5) h7
        rwa [show (((i + 1 : Nat) : Int) - 1) = (i : Int) by omega] at this
      · exact .inr ⟨fun h => h5 (h i (by omega) (by omega)), h6⟩

theorem fn11_eq {l : List Nd} (hl : l.length < 1000000000000) (leaves : Int) : (Rt l leaves ∧ fn10 l leaves = some (true, ())) ∨ (¬ Rt l leaves ∧ fn10 l leaves = some (false, ())) := by
  rw [fn10]
  by_cases c0 : l = []
  · subst c0
    exact .inr ⟨fun h => h.1 rfl, rfl⟩
  have hpos : 0 < l.length := List.length_pos_iff.2 c0
  have hin : inI l 0 = true := inI_t (by omega) (by omega)
  rw [bif_f (eqI_f (by rw [lenI_eq]; omega)), bif_t hin]
  by_cases c1 : (nd l 0).up = -1
  · rw [bif_f (by rw [eqI_t c1]; rfl), bif_t hin]
    by_cases c2 : (nd l 0).fro = 0
    · rw [bif_f (by rw [eqI_t c2]; rfl), bif_t hin]
      by_cases c3 : (nd l 0).too = leaves
      · rw [bif_f (by rw [eqI_t c3]; rfl), bif_t hin]
        have hf : ∀ n : Nd, fn17 n = some (leI 1 n.kind && (leI n.kind 18 && leI n.fro n.too), ()) := fun n => by
          rw [fn17]
          cases leI 1 n.1 <;> cases leI n.1 18 <;> rfl
        rw [hf, obind_some]
        by_cases c4 : 1 ≤ (nd l 0).kind ∧ (nd l 0).kind ≤ 18 ∧ (nd l 0).fro ≤ (nd l 0).too
        · have hb : (leI 1 (nd l 0).kind && (leI (nd l 0).kind 18 && leI (nd l 0).fro (nd l 0).too)) = true := by rw [leI_t c4.1, leI_t c4.2.1, leI_t c4.2.2]; rfl
          have hroom : (leI 0 (lenI l) && (leI (lenI l) (lenI l) && roomC (lenI l) 8)) = true := by
            rw [leI_t (a := 0) (b := lenI l) (by rw [lenI_eq]; omega), leI_t (Int.le_refl (lenI l))]
            show decide ((l.length : Int).toNat * 8 ≤ 140737488355328) = true
            simp only [Int.toNat_natCast, decide_eq_true_eq]; omega
          rw [bif_f (by simp only [hb]; rfl), bif_t hroom]
          have hok1 : okTo l (1 : Nat) := fun j a b => by
            have : j = 0 := by omega
            subst this
            exact ⟨c4.1, c4.2.1, c4.2.2, fun h => absurd rfl h⟩
          have he : endsOk l 1 (repN (natI (lenI l)) 0) := ⟨by simp [repN, natI, lenI_eq], fun u hu => by
            simp [repN, natI, lenI_eq, List.getD, lastTo, List.getElem?_replicate, hu]⟩
          have hanc : anc l (((1 : Nat) : Int) - 1) = [0] := by
            rw [anc_cons (i := 1) (hok1.ups c1) (by omega) (by omega), show (((1 : Nat) : Int) - 1) = 0 by omega, c1, anc_neg (by omega)]
          have h := all11 hl c1 c2 (l.length + 1) fuelN 1 (repN (natI (lenI l)) 0) (by omega) (big_fuel (by omega)) (by omega) (by omega) hok1 he
          rw [hanc] at h
          rcases h with ⟨h5, h6⟩ | ⟨h5, h6⟩
          · refine .inl ⟨⟨c0, c1, c2, c3, h5⟩, ?_⟩
            rw [show lp10_6 fuelN l 1 (repN (natI (lenI l)) 0) [0] = _ from h6]; rfl
          · refine .inr ⟨fun h => h5 h.2.2.2.2, ?_⟩
            rw [show lp10_6 fuelN l 1 (repN (natI (lenI l)) 0) [0] = _ from h6]; rfl
        · have hb : (leI 1 (nd l 0).kind && (leI (nd l 0).kind 18 && leI (nd l 0).fro (nd l 0).too)) = false := by
            cases h : (leI 1 (nd l 0).kind && (leI (nd l 0).kind 18 && leI (nd l 0).fro (nd l 0).too))
            · rfl
            · simp only [Bool.and_eq_true, leI_iff] at h; exact absurd h c4
          rw [bif_t (by simp only [hb]; rfl)]
          exact .inr ⟨fun h => c4 (by have := h.2.2.2.2 0 (by omega) (by omega); exact ⟨this.1, this.2.1, this.2.2.1⟩), rfl⟩
      · rw [bif_t (by rw [eqI_f c3]; rfl)]; exact .inr ⟨fun h => c3 h.2.2.2.1, rfl⟩
    · rw [bif_t (by rw [eqI_f c2]; rfl)]; exact .inr ⟨fun h => c2 h.2.2.1, rfl⟩
  · rw [bif_t (by rw [eqI_f c1]; rfl)]; exact .inr ⟨fun h => c1 h.2.1, rfl⟩

theorem anc_self {l : List Nd} {i b : Int} (h : upsOk l i) (h0 : 0 ≤ b) (h1 : b < i) : b ∈ anc l b := by
  rw [anc_cons h h0 h1]; exact List.mem_cons_self

theorem anc_trans {l : List Nd} {i : Int} (h : upsOk l i) : ∀ (n : Nat) (b a c : Int), b < n → b < i → a ∈ anc l b → c ∈ anc l a → c ∈ anc l b
  | 0, b, a, c, h1, _, ha, _ => by rw [anc_neg (by omega)] at ha; cases ha
  | n + 1, b, a, c, h1, h2, ha, hc => by
    by_cases hb : b < 0
    · rw [anc_neg hb] at ha; cases ha
    · have hu := h b (by omega) h2
      rw [anc_cons h (by omega) h2] at ha ⊢
      rcases List.mem_cons.1 ha with rfl | ha
      · rwa [anc_cons h (by omega) h2] at hc
      · exact List.mem_cons_of_mem _ (anc_trans h n _ a c (by omega) (by omega) ha hc)

/-- above a node: it lies within -/
theorem anc_in {l : List Nd} {i : Int} (hok : okTo l i) (hup : (nd l 0).up = -1) : ∀ (n : Nat) (b a : Int), b < n → b < i → a ∈ anc l b → (nd l a).fro ≤ (nd l b).fro ∧ (nd l b).too ≤ (nd l a).too
  | 0, b, a, h1, _, ha => by rw [anc_neg (by omega)] at ha; cases ha
  | n + 1, b, a, h1, h2, ha => by
    by_cases hb : b < 0
    · rw [anc_neg hb] at ha; cases ha
    · have hups := hok.ups hup
      have hu := hups b (by omega) h2
      rw [anc_cons hups (by omega) h2] at ha
      rcases List.mem_cons.1 ha with rfl | ha
      · omega
      · have ih := anc_in hok hup n _ a (by omega) (by omega) ha
        by_cases e : b = 0
        · subst e; rw [hup, anc_neg (by omega)] at ha; cases ha
        · obtain ⟨_, _, _, h3⟩ := hok b (by omega) h2
          obtain ⟨_, _, _, h4, h5, _⟩ := h3 e
          omega

/-- what lies between a node and one below it is below it -/
theorem anc_between {l : List Nd} {i : Int} (hok : okTo l i) (hup : (nd l 0).up = -1) : ∀ (n : Nat) (m u k : Int), m < n → m < i → u ∈ anc l m → u ≤ k → k ≤ m → u ∈ anc l k
  | 0, m, u, k, h1, _, hu, _, _ => by rw [anc_neg (by omega)] at hu; cases hu
  | n + 1, m, u, k, h1, h2, hu, h3, h4 => by
    have hups := hok.ups hup
    have hm := anc_mem hups (n + 1) m u h1 h2 hu
    by_cases e : k = m
    · subst e; exact hu
    · rw [anc_cons hups (by omega) h2] at hu
      rcases List.mem_cons.1 hu with rfl | hu
      · omega
      · obtain ⟨_, _, _, h5⟩ := hok m (by omega) h2
        obtain ⟨_, h6, h7, _⟩ := h5 (by omega)
        have := anc_trans hups n (m - 1) _ u (by omega) (by omega) h7 hu
        exact anc_between hok hup n (m - 1) u k (by omega) (by omega) this h3 (by omega)

/-- below a node, and not it: below one of its kids -/
theorem anc_kid {l : List Nd} {i : Int} (hups : upsOk l i) : ∀ (n : Nat) (k u : Int), k < n → k < i → u ∈ anc l k → u ≠ k → ∃ w, w ∈ anc l k ∧ (nd l w).up = u ∧ u < w
  | 0, k, u, h1, _, hu, _ => by rw [anc_neg (by omega)] at hu; cases hu
  | n + 1, k, u, h1, h2, hu, hne => by
    by_cases hk : k < 0
    · rw [anc_neg hk] at hu; cases hu
    · have hup := hups k (by omega) h2
      have hc := anc_cons hups (by omega) h2
      rw [hc] at hu
      rcases List.mem_cons.1 hu with rfl | hu
      · exact absurd rfl hne
      · by_cases e : u = (nd l k).up
        · exact ⟨k, by rw [hc]; exact List.mem_cons_self, e.symm, by omega⟩
        · obtain ⟨w, w1, w2, w3⟩ := anc_kid hups n _ u (by omega) (by omega) hu e
          exact ⟨w, by rw [hc]; exact List.mem_cons_of_mem _ w1, w2, w3⟩

/-- behind a node: below it, or it begins where that ends, or later -/
theorem behind {l : List Nd} {i : Int} (hok : okTo l i) (hup : (nd l 0).up = -1) : ∀ (n : Nat) (j k : Int), j < n → 0 ≤ k → k < j → j < i → k ∈ anc l j ∨ (nd l k).too ≤ (nd l j).fro
  | 0, j, k, h1, h2, h3, h4 => by omega
  | n + 1, j, k, h1, h2, h3, h4 => by
    have hups := hok.ups hup
    obtain ⟨_, _, _, h5⟩ := hok j (by omega) h4
    obtain ⟨h6, h7, h8, h9, h10, h11⟩ := h5 (by omega)
    have hc := anc_cons hups (b := j) (by omega) h4
    by_cases e : (nd l j).up = k
    · left; rw [hc, e]; exact List.mem_cons_of_mem _ (anc_self hups h2 (by omega))
    · by_cases hlt : k < (nd l j).up
      · rcases behind hok hup n (nd l j).up k (by omega) h2 hlt (by omega) with h | h
        · left; rw [hc]; exact List.mem_cons_of_mem _ h
        · right; omega
      · right
        have hu := anc_between hok hup j.toNat (j - 1) (nd l j).up k (by omega) (by omega) h8 (by omega) (by omega)
        obtain ⟨w, w1, w2, w3⟩ := anc_kid hups j.toNat k _ (by omega) (by omega) hu e
        have hwk := anc_mem hups j.toNat k w (by omega) (by omega) w1
        have hin := anc_in hok hup j.toNat k w (by omega) (by omega) w1
        have := h11 w (by omega) (by omega) w2
        omega

end Go.Proofs.YtnmaceljkegenaaDoor
