/-
  tree.Check and the document's Right are one test.
-/
import Derived.Test.YtfeklnaeolangaaGa
namespace Go.Proofs.Ytfeklnaeolangaa
open Go.RowKit
set_option linter.unusedVariables false
set_option linter.unusedSimpArgs false

/-- is a node right, those ahead of it being so? -/
def okAt (l : List Nd) (i : Int) : Prop :=
  1 ≤ (nd l i).kind ∧ (nd l i).kind ≤ 18 ∧ (nd l i).fro ≤ (nd l i).too ∧ (i ≠ 0 → 0 ≤ (nd l i).up ∧ (nd l i).up < i ∧ (nd l i).up ∈ anc l (i - 1) ∧
    (nd l (nd l i).up).fro ≤ (nd l i).fro ∧ (nd l i).too ≤ (nd l (nd l i).up).too ∧ ∀ k, 1 ≤ k → k < i → (nd l k).up = (nd l i).up → (nd l k).too ≤ (nd l i).fro)

def okTo (l : List Nd) (i : Int) : Prop := ∀ j, 0 ≤ j → j < i → okAt l j

theorem okTo.ups {l : List Nd} {i : Int} (h : okTo l i) (h0 : (nd l 0).up = -1) : upsOk l i := fun j h1 h2 => by
  by_cases e : j = 0
  · subst e; rw [h0]; omega
  · obtain ⟨_, _, _, h3⟩ := h j h1 h2
    have := h3 e
    omega

theorem okTo.succ {l : List Nd} {i : Int} (h : okTo l i) (hi : okAt l i) : okTo l (i + 1) := fun j h1 h2 => by
  by_cases e : j = i
  · subst e; exact hi
  · exact h j h1 (by omega)

theorem okTo.fro {l : List Nd} {i : Int} (h : okTo l i) (h0 : (nd l 0).fro = 0) : ∀ (n : Nat) (j : Int), j < n → 0 ≤ j → j < i → 0 ≤ (nd l j).fro
  | 0, j, h1, h2, _ => by omega
  | n + 1, j, h1, h2, h3 => by
    by_cases e : j = 0
    · subst e; rw [h0]; omega
    · obtain ⟨_, _, _, h4⟩ := h j h2 h3
      obtain ⟨h5, h6, _, h7, _⟩ := h4 e
      have := okTo.fro h h0 n (nd l j).up (by omega) h5 (by omega)
      omega

/-! ### the document's -/

theorem lp12 {l : List Nd} {i : Int} (h0 : 0 ≤ i) (hi : i < l.length) (hl : l.length < 1000000000000) (u : Int) : ∀ (n N : Nat) (k : Int), i - k < n → n < N → 1 ≤ k → k ≤ i →
    ((∀ j, k ≤ j → j < i → (nd l j).up = u → (nd l j).too ≤ (nd l i).fro) ∧ lp12_13 N l i u k = some (.inl ((l, i, ()), ()))) ∨
    (¬(∀ j, k ≤ j → j < i → (nd l j).up = u → (nd l j).too ≤ (nd l i).fro) ∧ lp12_13 N l i u k = some (.inr ((false, ()), ())))
  | n, 0, k, _, h2, _, _ => by omega
  | 0, N + 1, k, h1, h2, h3, h4 => by omega
  | n + 1, N + 1, k, h1, h2, h3, h4 => by
    rw [lp12_13, st12_13]
    by_cases e : k < i
    · rw [bif_t (ltI_t e), bif_t (inI_t (by omega) (by omega))]
      have ea : addK .i64 k 1 = k + 1 := addK_eq (by omega) (by omega)
      by_cases hu : (nd l k).up = u
      · rw [bif_t (eqI_t hu), bif_t (inI_t (by omega) (by omega)), bif_t (inI_t (by omega) (by omega))]
        by_cases hw : (nd l i).fro < (nd l k).too
        · rw [bif_t (ltI_t hw)]
          exact .inr ⟨fun hA => by have := hA k (by omega) e hu; omega, rfl⟩
        · rw [bif_f (ltI_n hw), ea]
          rcases lp12 h0 hi hl u n N (k + 1) (by omega) (by omega) (by omega) (by omega) with ⟨h5, h6⟩ | ⟨h5, h6⟩
          · refine .inl ⟨fun j a b c => ?_, h6⟩
            by_cases ej : j = k
            · subst ej; omega
            · exact h5 j (by omega) b c
          · exact .inr ⟨fun hA => h5 fun j a b c => hA j (by omega) b c, h6⟩
      · rw [bif_f (eqI_f hu), ea]
        rcases lp12 h0 hi hl u n N (k + 1) (by omega) (by omega) (by omega) (by omega) with ⟨h5, h6⟩ | ⟨h5, h6⟩
        · refine .inl ⟨fun j a b c => ?_, h6⟩
          by_cases ej : j = k
          · subst ej; exact absurd c hu
          · exact h5 j (by omega) b c
        · exact .inr ⟨fun hA => h5 fun j a b c => hA j (by omega) b c, h6⟩
    · rw [bif_f (ltI_f (by omega))]
      exact .inl ⟨fun j a b c => by omega, rfl⟩

theorem key12 {l : List Nd} {i : Int} (h0 : 0 ≤ i) (hi : i < l.length) (hl : l.length < 1000000000000) (hup : (nd l 0).up = -1) (hok : okTo l i) (N : Nat) :
    (okAt l i ∧ lp12_4 (N + 1) l i = lp12_4 N l (i + 1)) ∨ (¬ okAt l i ∧ lp12_4 (N + 1) l i = some (.inr ((false, ()), ()))) := by
  have hin : inI l i = true := inI_t h0 hi
  have ea : addK .i64 i 1 = i + 1 := addK_eq (by omega) (by omega)
  rw [lp12_4, st12_4, bif_t (ltI_t (b := lenI l) (by rw [lenI_eq]; omega)), bif_t hin]
  by_cases c1 : (nd l i).kind < 1
  · rw [bif_t (ltI_t c1)]; exact .inr ⟨fun h => by have := h.1; omega, rfl⟩
  rw [bif_f (ltI_n c1), bif_t hin]
  by_cases c2 : 18 < (nd l i).kind
  · rw [bif_t (ltI_t c2)]; exact .inr ⟨fun h => by have := h.2.1; omega, rfl⟩
  rw [bif_f (ltI_n c2), bif_t hin, bif_t hin]
  by_cases c3 : (nd l i).too < (nd l i).fro
  · rw [bif_t (ltI_t c3)]; exact .inr ⟨fun h => by have := h.2.2.1; omega, rfl⟩
  rw [bif_f (ltI_n c3)]
  by_cases c4 : i = 0
  · rw [bif_t (eqI_t c4), ea]
    exact .inl ⟨⟨by omega, by omega, by omega, fun h => absurd c4 h⟩, rfl⟩
  rw [bif_f (eqI_f c4), bif_t hin]
  by_cases c5 : (nd l i).up < 0
  · rw [bif_t (ltI_t c5)]; exact .inr ⟨fun h => by have := (h.2.2.2 c4).1; omega, rfl⟩
  rw [bif_f (ltI_n c5)]
  by_cases c6 : i ≤ (nd l i).up
  · rw [bif_t (leI_t c6)]; exact .inr ⟨fun h => by have := (h.2.2.2 c4).2.1; omega, rfl⟩
  have es : subK .i64 i 1 = i - 1 := subK_eq (by omega) (by omega)
  rw [bif_f (leI_n c6), es, fn18_eq (hok.ups hup) (by omega) hl _ _ (by omega), obind_some]
  by_cases c7 : (nd l i).up ∈ anc l (i - 1)
  · have hin2 : inI l (nd l i).up = true := inI_t (by omega) (by omega)
    rw [bif_f (by simp [c7]), bif_t hin, bif_t hin2]
    by_cases c8 : (nd l i).fro < (nd l (nd l i).up).fro
    · rw [bif_t (ltI_t c8)]; exact .inr ⟨fun h => by have := (h.2.2.2 c4).2.2.2.1; omega, rfl⟩
    rw [bif_f (ltI_n c8), bif_t hin, bif_t hin2]
    by_cases c9 : (nd l (nd l i).up).too < (nd l i).too
    · rw [bif_t (ltI_t c9)]; exact .inr ⟨fun h => by have := (h.2.2.2 c4).2.2.2.2.1; omega, rfl⟩
    rw [bif_f (ltI_n c9)]
    rcases lp12 h0 hi hl (nd l i).up i.toNat fuelN 1 (by omega) (big_fuel (by omega)) (by omega) (by omega) with ⟨h5, h6⟩ | ⟨h5, h6⟩
    · rw [h6, obind_some]
      refine .inl ⟨⟨by omega, by omega, by omega, fun _ => ⟨by omega, by omega, c7, by omega, by omega, h5⟩⟩, ?_⟩
      simp only [osum, ea]
    · rw [h6, obind_some]
      exact .inr ⟨fun h => h5 (h.2.2.2 c4).2.2.2.2.2, rfl⟩
  · rw [bif_t (by simp [c7])]
    exact .inr ⟨fun h => c7 (h.2.2.2 c4).2.2.1, rfl⟩

theorem all12 {l : List Nd} (hl : l.length < 1000000000000) (hup : (nd l 0).up = -1) : ∀ (n N : Nat) (i : Int), l.length - i < n → n < N → 0 ≤ i → i ≤ l.length → okTo l i →
    (okTo l l.length ∧ lp12_4 N l i = some (.inl ((), ()))) ∨ (¬ okTo l l.length ∧ lp12_4 N l i = some (.inr ((false, ()), ())))
  | 0, _, i, h1, h2, h3, h4, _ => by omega
  | n + 1, 0, i, h1, h2, h3, h4, _ => by omega
  | n + 1, N + 1, i, h1, h2, h3, h4, hok => by
    by_cases e : i = l.length
    · subst e
      rw [lp12_4, st12_4, bif_f (ltI_f (a := (l.length : Int)) (b := lenI l) (by rw [lenI_eq]; omega))]
      exact .inl ⟨hok, rfl⟩
    · rcases key12 h3 (by omega) hl hup hok N with ⟨h5, h6⟩ | ⟨h5, h6⟩
      · rw [h6]
        exact all12 hl hup n N (i + 1) (by omega) (by omega) (by omega) (by omega) (hok.succ h5)
      · exact .inr ⟨fun h => h5 (h i h3 (by omega)), h6⟩

/-- a right tree -/
def Rt (l : List Nd) (leaves : Int) : Prop := l ≠ [] ∧ (nd l 0).up = -1 ∧ (nd l 0).fro = 0 ∧ (nd l 0).too = leaves ∧ okTo l l.length

theorem fn12_eq {l : List Nd} (hl : l.length < 1000000000000) (leaves : Int) : (Rt l leaves ∧ fn12 l leaves = some (true, ())) ∨ (¬ Rt l leaves ∧ fn12 l leaves = some (false, ())) := by
  rw [fn12]
  by_cases c0 : l = []
  · subst c0
    exact .inr ⟨fun h => h.1 rfl, rfl⟩
  have hpos : 0 < l.length := List.length_pos_iff.2 c0
  have hin : inI l 0 = true := inI_t (by omega) (by omega)
  rw [bif_f (eqI_f (by rw [lenI_eq]; omega)), bif_t hin]
  by_cases c1 : (nd l 0).up = -1
  · rw [bif_f (by rw [eqI_t c1]; rfl), bif_t hin]
    by_cases c2 : (nd l 0).fro = 0
    · rw [bif_f (by rw [eqI_t c2]; rfl), bif_t hin]
      by_cases c3 : (nd l 0).too = leaves
      · rw [bif_f (by rw [eqI_t c3]; rfl)]
        rcases all12 hl c1 (l.length + 1) fuelN 0 (by omega) (big_fuel (by omega)) (by omega) (by omega) (fun j a b => by omega) with ⟨h5, h6⟩ | ⟨h5, h6⟩
        · rw [h6]; exact .inl ⟨⟨c0, c1, c2, c3, h5⟩, rfl⟩
        · rw [h6]; exact .inr ⟨fun h => h5 h.2.2.2.2, rfl⟩
      · rw [bif_t (by rw [eqI_f c3]; rfl)]; exact .inr ⟨fun h => c3 h.2.2.2.1, rfl⟩
    · rw [bif_t (by rw [eqI_f c2]; rfl)]; exact .inr ⟨fun h => c2 h.2.2.1, rfl⟩
  · rw [bif_t (by rw [eqI_f c1]; rfl)]; exact .inr ⟨fun h => c1 h.2.1, rfl⟩
end Go.Proofs.Ytfeklnaeolangaa
