/-
  The rows of bytes of one class.
-/
import Derived.Test.YtacflfpffpbkiaaWa
import Derived.Test.YtacflfpffpbkiaaBd
namespace Go.Proofs.Ytacflfpffpbkiaa
open Go.RowKit
set_option linter.unusedVariables false
set_option linter.unusedSimpArgs false
set_option maxRecDepth 100000

/-- a byte's class -/
def cls (b : Int) : Int := ((fn10 b).map (·.1)).getD 0

theorem t10 : ∀ n : Fin 256, fn10 ((n.val : Nat) : Int) = some (cls ((n.val : Nat) : Int), ()) := by decide +kernel
theorem t17 : ∀ n : Fin 256, fn17 ((n.val : Nat) : Int) = some (cls ((n.val : Nat) : Int), ()) := by decide +kernel

theorem f10 (s : List UInt8) (i : Int) : fn10 (byteAt s i) = some (cls (byteAt s i), ()) := by
  obtain ⟨n, h⟩ := byteAt_tab s i
  rw [h]; exact t10 n
theorem f17 (s : List UInt8) (i : Int) : fn17 (byteAt s i) = some (cls (byteAt s i), ()) := by
  obtain ⟨n, h⟩ := byteAt_tab s i
  rw [h]; exact t17 n

abbrev Rn := Int × Int × Int × Unit
abbrev rn (l : List Rn) (i : Int) : Rn := getI l (0, (0, (0, ()))) i

/-- as far as a row of one class goes -/
theorem span_eq {s : List UInt8} (hs : s.length ≤ 200) (a c : Int) (h0 : 0 ≤ a) (v3 v4 : Int) (v5 : List UInt8) (v6 : Int) (v7 : Bool) (v8 : List UInt8) (v9 v10 v11 : Int) (v12 : List UInt8) (v13 : Int) (v15 : List UInt8) (v16 : List Rn) : ∀ (N : Nat) (n : Int), s.length - (a + n) < N → 0 ≤ n → a + n ≤ s.length →
    ∃ m, n ≤ m ∧ a + m ≤ s.length ∧ (∀ j, n ≤ j → j < m → cls (byteAt s (a + j)) = c) ∧ (a + m < s.length → cls (byteAt s (a + m)) ≠ c) ∧
      lp5_11_4 N s a n v3 v4 v5 v6 v7 v8 v9 v10 v11 v12 v13 c v15 v16 = some (.inl ((m, ()), ((v3, v4, v5, v6, v7, v8, v9, v10, v11, v12, v13, ()), (), (), (), ()), ((c, ()), (), (v15, ()), (), v16, ())))
  | 0, n, h, _, _ => by omega
  | N + 1, n, h, hn, hl => by
    rw [lp5_11_4, st5_11_4]
    rw [addK_eq (a := a) (b := n) (by omega) (by omega)]
    by_cases e : a + n < s.length
    · rw [bif_t (ltI_t (b := lenI s) e), bif_t (inI_t (by omega) e), f17, obind_some]
      simp only
      by_cases ec : cls (byteAt s (a + n)) = c
      · rw [bif_f (by rw [eqI_t ec]; rfl), addK_eq (a := n) (by omega) (by omega)]
        obtain ⟨m, h1, h2, h3, h4, h5⟩ := span_eq hs a c h0 v3 v4 v5 v6 v7 v8 v9 v10 v11 v12 v13 v15 v16 N (n + 1) (by omega) (by omega) (by omega)
        refine ⟨m, by omega, h2, fun j j1 j2 => ?_, h4, h5⟩
        by_cases ej : j = n
        · subst ej; exact ec
        · exact h3 j (by omega) j2
      · rw [bif_t (by rw [eqI_f ec]; rfl)]
        exact ⟨n, Int.le_refl _, hl, fun j j1 j2 => by omega, fun _ => ec, rfl⟩
    · rw [bif_f (ltI_f (b := lenI s) (by rw [lenI_eq]; omega))]
      exact ⟨n, Int.le_refl _, hl, fun j j1 j2 => by omega, fun h => absurd h e, rfl⟩

/-- where the k-th row begins -/
def beg (l : List Rn) (k : Int) : Int := if k = 0 then 0 else (rn l (k - 1)).2.2.1

/-- rows that tile a text up to a place -/
structure Good (s : List UInt8) (l : List Rn) (fr : Int) : Prop where
  row : ∀ k : Int, 0 ≤ k → k < l.length → (rn l k).2.1 = beg l k ∧ (rn l k).2.1 < (rn l k).2.2.1 ∧ (rn l k).2.2.1 ≤ s.length ∧ 0 ≤ beg l k ∧ (∀ j, beg l k ≤ j → j < (rn l k).2.2.1 → cls (byteAt s j) = (rn l k).1) ∧ (0 < k → (rn l (k - 1)).1 ≠ (rn l k).1)
  fin : beg l l.length = fr
  len : (l.length : Int) ≤ fr
  nxt : 0 < l.length → fr < s.length → (rn l (l.length - 1)).1 ≠ cls (byteAt s fr)

theorem beg_append {l : List Rn} {x : Rn} {k : Int} (h0 : 0 ≤ k) (h : k ≤ l.length) : beg (l ++ [x]) k = beg l k := by
  unfold beg
  by_cases e : k = 0
  · rw [if_pos e, if_pos e]
  · rw [if_neg e, if_neg e, rn, getI_append_left (by omega) (by omega)]

theorem Good.push {s : List UInt8} {l : List Rn} {fr n : Int} (h : Good s l fr) (hf : 0 ≤ fr) (hn : 1 ≤ n) (hl : fr + n ≤ s.length) (ha : ∀ j, 0 ≤ j → j < n → cls (byteAt s (fr + j)) = cls (byteAt s fr)) (hx : fr + n < s.length → cls (byteAt s (fr + n)) ≠ cls (byteAt s fr)) :
    Good s (l ++ [(cls (byteAt s fr), (fr, (fr + n, ())))]) (fr + n) := by
  have hlast : rn (l ++ [(cls (byteAt s fr), (fr, (fr + n, ())))]) l.length = (cls (byteAt s fr), (fr, (fr + n, ()))) := getI_append_last rfl
  refine ⟨fun k h0 h1 => ?_, ?_, ?_, fun _ h2 => ?_⟩
  · simp only [List.length_append, List.length_singleton] at h1
    by_cases e : k = l.length
    · subst e
      rw [hlast, beg_append (by omega) (by omega), h.fin]
      refine ⟨rfl, by show fr < fr + n; omega, hl, hf, fun j j1 j2 => ?_, fun h3 => ?_⟩
      · have := ha (j - fr) (by omega) (by have : j < fr + n := j2; omega)
        rwa [show fr + (j - fr) = j by omega] at this
      · rw [rn, getI_append_left (by omega) (by omega)]
        exact h.nxt (by omega) (by omega)
    · obtain ⟨a1, a2, a3, a4, a5, a6⟩ := h.row k h0 (by omega)
      have e1 : rn (l ++ [(cls (byteAt s fr), (fr, (fr + n, ())))]) k = rn l k := getI_append_left h0 (by omega)
      rw [e1, beg_append h0 (by omega)]
      refine ⟨a1, a2, a3, a4, a5, fun h3 => ?_⟩
      have e2 : rn (l ++ [(cls (byteAt s fr), (fr, (fr + n, ())))]) (k - 1) = rn l (k - 1) := getI_append_left (by omega) (by omega)
      rw [e2]
      exact a6 h3
  · unfold beg
    rw [if_neg (by simp only [List.length_append, List.length_singleton]; omega)]
    have : (((l ++ [(cls (byteAt s fr), (fr, (fr + n, ())))]).length : Nat) : Int) - 1 = l.length := by simp
    rw [this, hlast]
  · have := h.len
    simp only [List.length_append, List.length_singleton]
    omega
  · have : (((l ++ [(cls (byteAt s fr), (fr, (fr + n, ())))]).length : Nat) : Int) - 1 = l.length := by simp
    rw [this, hlast]
    exact fun e => hx h2 e.symm

theorem runs_eq {s : List UInt8} (hs : s.length ≤ 200) : ∀ (N : Nat) (fr : Int) (l : List Rn), s.length - fr < N → 0 ≤ fr → fr ≤ s.length → Good s l fr →
    ∃ l', Good s l' s.length ∧ lp5_16_1 N fr s l = some (.inl ((), ((), (), (), ()), ((), (s, ()), (), l', ())))
  | 0, fr, l, h, _, _, _ => by omega
  | N + 1, fr, l, h, hf, hl, hg => by
    rw [lp5_16_1, st5_16_1]
    by_cases e : fr < s.length
    · rw [bif_t (ltI_t (b := lenI s) e), bif_t (inI_t hf e), f17, obind_some, bif_f (ltI_f hf), bif_f (leI_f (a := lenI s) e)]
      simp only
      obtain ⟨n, h1, h2, h3, h4, h5⟩ := span_eq hs fr (cls (byteAt s fr)) hf fr fr s (lenI s) (ltI fr (lenI s)) s fr (byteAt s fr) (cls (byteAt s fr)) s fr s l fuelN 0 (by have := big_fuel (n := s.length + 1) (by omega); omega) (by omega) (by omega)
      rw [h5, obind_some]
      simp only [osum]
      have hn1 : 1 ≤ n := by
        rcases Int.lt_or_le 0 n with h | h
        · omega
        · have : n = 0 := by omega
          subst this
          exact absurd (by rw [Int.add_zero]) (h4 (by omega))
      rw [addK_eq (a := fr) (b := n) (by omega) (by omega)]
      have hlen := hg.len
      have hgp := hg.push hf hn1 h2 (fun j j1 j2 => h3 j j1 j2) h4
      obtain ⟨l', g1, g2⟩ := runs_eq hs N (fr + n) _ (by omega) (by omega) h2 hgp
      refine ⟨l', g1, ?_⟩
      rw [bif_t]
      · exact g2
      · simp only [fitI, catL, roomN, decide_eq_true_eq, List.length_append, List.length_singleton]
        omega
    · rw [bif_f (ltI_f (b := lenI s) (by rw [lenI_eq]; omega))]
      have : fr = s.length := by omega
      subst this
      exact ⟨l, hg, rfl⟩

theorem all_eq {s : List UInt8} {a b : Int} (hs : s.length ≤ 200) (ha : 0 ≤ a) (hab : a ≤ b) (hb : b ≤ s.length) (c : Int) (hc : ∀ j, a ≤ j → j < b → cls (byteAt s j) = c) : ∀ (N : Nat) (k : Int), (b - a) - k < N → 0 ≤ k → k ≤ b - a →
    lp6_2 N (sub s a b) c k = some (.inl ((), ()))
  | 0, k, h, _, _ => by omega
  | N + 1, k, h, hk, hk2 => by
    have hlen := sub_len ha hab hb
    rw [lp6_2, st6_2]
    by_cases e : k < b - a
    · rw [bif_t (ltI_t (b := lenI (sub s a b)) (by rw [lenI_eq]; omega)), bif_t (inI_t hk (by omega)), f10, obind_some, byteAt_sub ha hk (by omega)]
      simp only
      rw [bif_f (by rw [eqI_t (hc (a + k) (by omega) (by omega))]; rfl), addK_eq (a := k) (by omega) (by omega)]
      exact all_eq hs ha hab hb c hc N (k + 1) (by omega) (by omega) (by omega)
    · rw [bif_f (ltI_f (b := lenI (sub s a b)) (by rw [lenI_eq]; omega))]

theorem law_eq {s : List UInt8} (hs : s.length ≤ 200) {l : List Rn} (hg : Good s l s.length) : ∀ (N : Nat) (k : Int), l.length - k < N → 0 ≤ k → k ≤ l.length →
    lp3_8 N s l (beg l k) k = some (.inl ((s, s.length, ()), ()))
  | 0, k, h, _, _ => by omega
  | N + 1, k, h, hk, hk2 => by
    rw [lp3_8, st3_8]
    have hlen := hg.len
    by_cases e : k < l.length
    · obtain ⟨a1, a2, a3, a4, a5, a6⟩ := hg.row k hk e
      have hin := inI_t (l := l) hk e
      have hb : beg l (k + 1) = (rn l k).2.2.1 := by
        unfold beg
        rw [if_neg (by omega), show k + 1 - 1 = k by omega]
      have ih := law_eq hs hg N (k + 1) (by omega) (by omega) (by omega)
      rw [hb] at ih
      have hal : fn6 (sub s (beg l k) (rn l k).2.2.1) (rn l k).1 = some (true, ()) := by
        have hbl : beg l k ≤ (rn l k).2.2.1 := by omega
        have := all_eq hs a4 hbl a3 (rn l k).1 a5 fuelN 0 (by have := big_fuel (n := s.length + 1) (by omega); omega) (by omega) (by omega)
        rw [fn6, this, obind_some]; rfl
      have a2' : beg l k < (getI l (0, (0, (0, ()))) k).2.2.1 := by rw [← a1]; exact a2
      rw [bif_t (ltI_t (b := lenI l) e), bif_t hin, bif_f (by rw [eqI_t a1]; rfl), bif_t hin, bif_f (leI_f a2'), bif_t hin, bif_f (ltI_f (a := lenI s) a3)]
      have hp := partI_t (n := lenI s) a4 (by omega : beg l k ≤ (rn l k).2.2.1) a3
      by_cases e0 : 0 < k
      · rw [bif_t (ltI_t e0), subK_eq (by omega) (by omega), bif_t (inI_t (by omega) (by omega)), bif_t hin, bif_f (eqI_f (a6 e0)), bif_t hin, bif_t hp, bif_t hin, hal, obind_some]
        simp only [Bool.not_true, cond_false]
        rw [bif_t hin, addK_eq (a := k) (by omega) (by omega)]
        exact ih
      · rw [bif_f (ltI_n e0), bif_t hin, bif_t hp, bif_t hin, hal, obind_some]
        simp only [Bool.not_true, cond_false]
        rw [bif_t hin, addK_eq (a := k) (by omega) (by omega)]
        exact ih
    · have : k = l.length := by omega
      subst this
      rw [bif_f (ltI_f (b := lenI l) (by rw [lenI_eq]; omega)), hg.fin]

theorem law3 (x0 : List UInt8) (h0 : wfD .str x0) : fn3 x0 = some (true, ()) := by
  rw [fn3]
  by_cases a : 200 < x0.length
  · rw [bif_t (ltI_t (b := lenI x0) (by rw [lenI_eq]; omega))]
  · have hs : x0.length ≤ 200 := by omega
    rw [bif_f (ltI_f (b := lenI x0) (by rw [lenI_eq]; omega))]
    have hbig := big_fuel (n := x0.length + 1) (by omega)
    obtain ⟨l, g1, g2⟩ := runs_eq hs fuelN 0 [] (by omega) (by omega) (by omega) ⟨fun k h1 h2 => by simp at h2; omega, rfl, by simp, fun h => by simp at h⟩
    have hlen := g1.len
    have h5 : fn5 x0 = some (l, ()) := by
      rw [fn5, g2, obind_some]; rfl
    have h3 := law_eq hs g1 fuelN 0 (by omega) (by omega) (by omega)
    rw [h5, obind_some]
    simp only
    rw [show lp3_8 fuelN x0 l 0 0 = _ from h3, obind_some]
    simp only [osum]
    rw [eqI_t (lenI_eq (l := x0)).symm]
end Go.Proofs.Ytacflfpffpbkiaa
