/-
  Right trees: nodes lie one in another; the last node that covers a leaf.
-/
import Derived.Test.YtfeklnaeolangaaGc
import Derived.Test.YtfeklnaeolangaaFb
namespace Go.Proofs.Ytfeklnaeolangaa
open Go.RowKit
set_option linter.unusedVariables false
set_option linter.unusedSimpArgs false

theorem anc_self {l : List Nd} {i b : Int} (h : upsOk l i) (h0 : 0 ≤ b) (h1 : b < i) : b ∈ anc l b := by
  rw [anc_cons h h0 h1]; exact List.mem_cons_self

theorem anc_trans {l : List Nd} {i : Int} (h : upsOk l i) : ∀ (n : Nat) (b a c : Int), b < n → b < i → a ∈ anc l b → c ∈ anc l a → c ∈ anc l b
  | 0, b, a, c, h1, _, ha, _ => by rw [anc_neg (by omega)] at ha; cases ha
  | n + 1, b, a, c, h1, h2, ha, hc => by
    by_cases hb : b < 0
    · rw [anc_neg hb] at ha; cases ha
    · have hu := h b (by omega) h2
      rw [anc_cons h (by omega) h2] at ha ⊢
      rcases List.mem_cons.1 ha with rfl | ha
      · rwa [anc_cons h (by omega) h2] at hc
      · exact List.mem_cons_of_mem _ (anc_trans h n _ a c (by omega) (by omega) ha hc)

/-- above a node: it lies within -/
theorem anc_in {l : List Nd} {i : Int} (hok : okTo l i) (hup : (nd l 0).up = -1) : ∀ (n : Nat) (b a : Int), b < n → b < i → a ∈ anc l b → (nd l a).fro ≤ (nd l b).fro ∧ (nd l b).too ≤ (nd l a).too
  | 0, b, a, h1, _, ha => by rw [anc_neg (by omega)] at ha; cases ha
  | n + 1, b, a, h1, h2, ha => by
    by_cases hb : b < 0
    · rw [anc_neg hb] at ha; cases ha
    · have hups := hok.ups hup
      have hu := hups b (by omega) h2
      rw [anc_cons hups (by omega) h2] at ha
      rcases List.mem_cons.1 ha with rfl | ha
      · omega
      · have ih := anc_in hok hup n _ a (by omega) (by omega) ha
        by_cases e : b = 0
        · subst e; rw [hup, anc_neg (by omega)] at ha; cases ha
        · obtain ⟨_, _, _, h3⟩ := hok b (by omega) h2
          obtain ⟨_, _, _, h4, h5, _⟩ := h3 e
          omega

/-- what lies between a node and one below it is below it -/
theorem anc_between {l : List Nd} {i : Int} (hok : okTo l i) (hup : (nd l 0).up = -1) : ∀ (n : Nat) (m u k : Int), m < n → m < i → u ∈ anc l m → u ≤ k → k ≤ m → u ∈ anc l k
  | 0, m, u, k, h1, _, hu, _, _ => by rw [anc_neg (by omega)] at hu; cases hu
  | n + 1, m, u, k, h1, h2, hu, h3, h4 => by
    have hups := hok.ups hup
    have hm := anc_mem hups (n + 1) m u h1 h2 hu
    by_cases e : k = m
    · subst e; exact hu
    · rw [anc_cons hups (by omega) h2] at hu
      rcases List.mem_cons.1 hu with rfl | hu
      · omega
      · obtain ⟨_, _, _, h5⟩ := hok m (by omega) h2
        obtain ⟨_, h6, h7, _⟩ := h5 (by omega)
        have := anc_trans hups n (m - 1) _ u (by omega) (by omega) h7 hu
        exact anc_between hok hup n (m - 1) u k (by omega) (by omega) this h3 (by omega)

/-- below a node, and not it: below one of its kids -/
theorem anc_kid {l : List Nd} {i : Int} (hups : upsOk l i) : ∀ (n : Nat) (k u : Int), k < n → k < i → u ∈ anc l k → u ≠ k → ∃ w, w ∈ anc l k ∧ (nd l w).up = u ∧ u < w
  | 0, k, u, h1, _, hu, _ => by rw [anc_neg (by omega)] at hu; cases hu
  | n + 1, k, u, h1, h2, hu, hne => by
    by_cases hk : k < 0
    · rw [anc_neg hk] at hu; cases hu
    · have hup := hups k (by omega) h2
      have hc := anc_cons hups (by omega) h2
      rw [hc] at hu
      rcases List.mem_cons.1 hu with rfl | hu
      · exact absurd rfl hne
      · by_cases e : u = (nd l k).up
        · exact ⟨k, by rw [hc]; exact List.mem_cons_self, e.symm, by omega⟩
        · obtain ⟨w, w1, w2, w3⟩ := anc_kid hups n _ u (by omega) (by omega) hu e
          exact ⟨w, by rw [hc]; exact List.mem_cons_of_mem _ w1, w2, w3⟩

/-- behind a node: below it, or it begins where that ends, or later -/
theorem behind {l : List Nd} {i : Int} (hok : okTo l i) (hup : (nd l 0).up = -1) : ∀ (n : Nat) (j k : Int), j < n → 0 ≤ k → k < j → j < i → k ∈ anc l j ∨ (nd l k).too ≤ (nd l j).fro
  | 0, j, k, h1, h2, h3, h4 => by omega
  | n + 1, j, k, h1, h2, h3, h4 => by
    have hups := hok.ups hup
    obtain ⟨_, _, _, h5⟩ := hok j (by omega) h4
    obtain ⟨h6, h7, h8, h9, h10, h11⟩ := h5 (by omega)
    have hc := anc_cons hups (b := j) (by omega) h4
    by_cases e : (nd l j).up = k
    · left; rw [hc, e]; exact List.mem_cons_of_mem _ (anc_self hups h2 (by omega))
    · by_cases hlt : k < (nd l j).up
      · rcases behind hok hup n (nd l j).up k (by omega) h2 hlt (by omega) with h | h
        · left; rw [hc]; exact List.mem_cons_of_mem _ h
        · right; omega
      · right
        have hu := anc_between hok hup j.toNat (j - 1) (nd l j).up k (by omega) (by omega) h8 (by omega) (by omega)
        obtain ⟨w, w1, w2, w3⟩ := anc_kid hups j.toNat k _ (by omega) (by omega) hu e
        have hwk := anc_mem hups j.toNat k w (by omega) (by omega) w1
        have hin := anc_in hok hup j.toNat k w (by omega) (by omega) w1
        have := h11 w (by omega) (by omega) w2
        omega

def covers (l : List Nd) (leaf k : Int) : Prop := (nd l k).fro ≤ leaf ∧ leaf < (nd l k).too

theorem lp17 {l : List Nd} (hl : l.length < 1000000000000) (leaf : Int) : ∀ (n N : Nat) (k : Int), k < n → n < N → -1 ≤ k → k < l.length →
    ((∀ j, 0 ≤ j → j ≤ k → ¬ covers l leaf j) ∧ lp17_2 N l leaf k = some (.inl ((), ()))) ∨ (∃ m, 0 ≤ m ∧ m ≤ k ∧ covers l leaf m ∧ (∀ j, m < j → j ≤ k → ¬ covers l leaf j) ∧ lp17_2 N l leaf k = some (.inr ((m, ()), ())))
  | n, 0, k, _, h2, _, _ => by omega
  | n, N + 1, k, h1, h2, h3, h4 => by
    rw [lp17_2, st17_2]
    by_cases hk : k < 0
    · rw [bif_f (leI_f hk)]
      exact .inl ⟨fun j a b => by omega, rfl⟩
    · obtain _ | n := n
      · omega
      have es : subK .i64 k 1 = k - 1 := subK_eq (by omega) (by omega)
      have hin : inI l k = true := inI_t (by omega) (by omega)
      rw [bif_t (leI_t (by omega)), bif_t hin]
      have go : ¬ covers l leaf k → ((∀ j, 0 ≤ j → j ≤ k → ¬ covers l leaf j) ∧ lp17_2 N l leaf (k - 1) = some (.inl ((), ()))) ∨ (∃ m, 0 ≤ m ∧ m ≤ k ∧ covers l leaf m ∧ (∀ j, m < j → j ≤ k → ¬ covers l leaf j) ∧ lp17_2 N l leaf (k - 1) = some (.inr ((m, ()), ()))) := fun hc => by
        rcases lp17 hl leaf n N (k - 1) (by omega) (by omega) (by omega) (by omega) with ⟨h5, h6⟩ | ⟨m, h5, h6, h7, h8, h9⟩
        · refine .inl ⟨fun j a b => ?_, h6⟩
          by_cases e : j = k
          · subst e; exact hc
          · exact h5 j a (by omega)
        · refine .inr ⟨m, h5, by omega, h7, fun j a b => ?_, h9⟩
          by_cases e : j = k
          · subst e; exact hc
          · exact h8 j a (by omega)
      by_cases c1 : (nd l k).fro ≤ leaf
      · rw [bif_t (leI_t c1), bif_t hin]
        by_cases c2 : leaf < (nd l k).too
        · rw [bif_t (ltI_t c2)]
          exact .inr ⟨k, by omega, by omega, ⟨c1, c2⟩, fun j a b => by omega, rfl⟩
        · rw [bif_f (ltI_n c2), es]
          exact go fun h => c2 h.2
      · rw [bif_f (leI_n c1), es]
        exact go fun h => c1 h.1

theorem lp5 {l : List Nd} (hl : l.length < 1000000000000) (hok : okTo l l.length) (hup : (nd l 0).up = -1) {leaf m : Int} (h0 : 0 ≤ m) (hm : m < l.length) (hiff : ∀ k : Int, 0 ≤ k → k < l.length → (covers l leaf k ↔ k ∈ anc l m)) :
    ∀ (n N : Nat) (k : Int), l.length - k < n → n < N → 0 ≤ k → k ≤ l.length → lp5_11 N l leaf m k = some (.inl ((), ()))
  | n, 0, k, _, h2, _, _ => by omega
  | 0, N + 1, k, h1, h2, h3, h4 => by omega
  | n + 1, N + 1, k, h1, h2, h3, h4 => by
    rw [lp5_11, st5_11]
    by_cases e : k = l.length
    · subst e
      rw [bif_f (ltI_f (a := (l.length : Int)) (b := lenI l) (by rw [lenI_eq]; omega))]
    · have hin : inI l k = true := inI_t (by omega) (by omega)
      have ea : addK .i64 k 1 = k + 1 := addK_eq (by omega) (by omega)
      have hf := fn18_eq (hok.ups hup) (Int.le_refl _) hl k m hm
      have h := hiff k h3 (by omega)
      rw [bif_t (ltI_t (b := lenI l) (by rw [lenI_eq]; omega)), bif_t hin]
      have ih := lp5 hl hok hup h0 hm hiff n N (k + 1) (by omega) (by omega) (by omega) (by omega)
      by_cases c1 : (nd l k).fro ≤ leaf
      · rw [bif_t (leI_t c1), bif_t hin, hf, obind_some]
        by_cases c2 : leaf < (nd l k).too
        · have hm2 : k ∈ anc l m := h.1 ⟨c1, c2⟩
          rw [bif_f (by rw [ltI_t c2]; simp [eqB, hm2]), ea]; exact ih
        · have hm2 : ¬ k ∈ anc l m := fun hh => c2 (h.2 hh).2
          rw [bif_f (by rw [ltI_n c2]; simp [eqB, hm2]), ea]; exact ih
      · have hm2 : ¬ k ∈ anc l m := fun hh => c1 (h.2 hh).1
        rw [bif_f (leI_n c1), hf, obind_some, bif_f (by simp [eqB, hm2]), ea]; exact ih

theorem fn16_eq (l : List Nd) : (l.length ≤ 40 ∧ Rt l (nd l 0).too ∧ fn16 l = some (true, ())) ∨ fn16 l = some (false, ()) := by
  rw [fn16]
  by_cases c1 : 0 < lenI l
  · rw [bif_t (ltI_t c1)]
    by_cases c2 : lenI l ≤ 40
    · rw [bif_t (leI_t c2)]
      rw [lenI_eq] at c1 c2
      rw [bif_t (inI_t (by omega) (by omega))]
      rcases fn12_eq (l := l) (by omega) (nd l 0).too with ⟨h1, h2⟩ | ⟨h1, h2⟩
      · exact .inl ⟨by omega, h1, by rw [h2]; rfl⟩
      · exact .inr (by rw [h2]; rfl)
    · rw [bif_f (leI_n c2)]; exact .inr rfl
  · rw [bif_f (ltI_n c1)]; exact .inr rfl

theorem law5 (x0 : List Nd) (x1 : Int) (h0 : wfD (.list (.pair (.int .i64) (.pair (.int .i64) (.pair (.int .i64) (.pair (.int .i64) .unit))))) x0) (h1 : wfD (.int .i64) x1) : fn5 x0 x1 = some (true, ()) := by
  rw [fn5]
  rcases fn16_eq x0 with ⟨hl, hR, h2⟩ | h2
  · rw [h2, obind_some, bif_f (by rfl)]
    obtain ⟨hne, hup, hfr, _, hok⟩ := hR
    have hpos : 0 < x0.length := List.length_pos_iff.2 hne
    have hll : x0.length < 1000000000000 := by omega
    have es : subK .i64 (lenI x0) 1 = (x0.length : Int) - 1 := by rw [lenI_eq, subK_eq (by omega) (by omega)]
    have h17 : (∃ m : Int, 0 ≤ m ∧ m < x0.length ∧ covers x0 x1 m ∧ (∀ j : Int, m < j → j < x0.length → ¬ covers x0 x1 j) ∧ fn17 x0 x1 = some (m, ())) ∨ ((∀ j : Int, 0 ≤ j → j < x0.length → ¬ covers x0 x1 j) ∧ fn17 x0 x1 = some (-1, ())) := by
      rw [fn17, es]
      rcases lp17 hll x1 (x0.length + 1) fuelN (x0.length - 1) (by omega) (big_fuel (by omega)) (by omega) (by omega) with ⟨h5, h6⟩ | ⟨m, h5, h6, h7, h8, h9⟩
      · rw [h6]; exact .inr ⟨fun j a b => h5 j a (by omega), rfl⟩
      · rw [h9]; exact .inl ⟨m, h5, by omega, h7, fun j a b => h8 j a (by omega), rfl⟩
    have hin0 : ∀ j : Int, 0 ≤ j → j < x0.length → (nd x0 j).fro ≥ 0 ∧ (nd x0 j).too ≤ (nd x0 0).too := fun j a b => by
      have hz : (0 : Int) ∈ anc x0 j := by
        have hups := hok.ups hup
        have : ∀ (n : Nat) (j : Int), j < n → 0 ≤ j → j < x0.length → (0 : Int) ∈ anc x0 j := by
          intro n
          induction n with
          | zero => intro j a b c; omega
          | succ n ih =>
            intro j a b c
            rw [anc_cons hups b c]
            by_cases e : j = 0
            · rw [e]; exact List.mem_cons_self
            · obtain ⟨_, _, _, h5⟩ := hok j b c
              obtain ⟨h6, h7, _⟩ := h5 e
              exact List.mem_cons_of_mem _ (ih _ (by omega) h6 (by omega))
        exact this (x0.length) j (by omega) a b
      have := anc_in hok hup x0.length j 0 (by omega) b hz
      rw [hfr] at this
      exact this
    by_cases c1 : x1 < 0
    · rcases h17 with ⟨m, h5, h6, h7, h8, h9⟩ | ⟨h5, h6⟩
      · have := hin0 m h5 h6
        have := h7.1
        omega
      · rw [h6, obind_some, bif_t (ltI_t c1), eqI_t rfl]
    · by_cases c2 : (nd x0 0).too ≤ x1
      · rcases h17 with ⟨m, h5, h6, h7, h8, h9⟩ | ⟨h5, h6⟩
        · have := hin0 m h5 h6
          have := h7.2
          omega
        · rw [h6, obind_some, bif_f (ltI_n c1), bif_t (inI_t (by omega) (by omega)), bif_t (leI_t c2), eqI_t rfl]
      · rcases h17 with ⟨m, h5, h6, h7, h8, h9⟩ | ⟨h5, h6⟩
        · rw [h9, obind_some, bif_f (ltI_n c1), bif_t (inI_t (by omega) (by omega)), bif_f (leI_n c2), bif_f (ltI_f (by omega)), bif_f (leI_f (by rw [lenI_eq]; omega))]
          have hiff : ∀ k : Int, 0 ≤ k → k < x0.length → (covers x0 x1 k ↔ k ∈ anc x0 m) := fun k a b => by
            constructor
            · intro hc
              by_cases e : m < k
              · exact absurd hc (h8 k e b)
              · by_cases e2 : k = m
                · subst e2; exact anc_self (hok.ups hup) a b
                · rcases behind hok hup x0.length m k (by omega) a (by omega) h6 with h | h
                  · exact h
                  · have := h7.1; have := hc.2; omega
            · intro hc
              have := anc_in hok hup x0.length m k (by omega) h6 hc
              exact ⟨by have := h7.1; omega, by have := h7.2; omega⟩
          rw [lp5 hll hok hup h5 h6 hiff (x0.length + 1) fuelN 0 (by omega) (big_fuel (by omega)) (by omega) (by omega)]
          rfl
        · exact absurd ⟨by rw [hfr]; omega, by omega⟩ (h5 0 (by omega) (by omega))
  · rw [h2]; rfl
end Go.Proofs.Ytfeklnaeolangaa
