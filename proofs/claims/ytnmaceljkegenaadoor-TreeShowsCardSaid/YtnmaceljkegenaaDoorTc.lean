/-
  A right tree's text: the program's answer.
-/
import Derived.Test.YtnmaceljkegenaaDoorTb
namespace Go.Proofs.YtnmaceljkegenaaDoor
open Go.RowKit
set_option linter.unusedVariables false
set_option linter.unusedSimpArgs false
set_option maxRecDepth 100000

abbrev ltrs : List UInt8 := [63, 80, 76, 65, 73, 83, 88, 87, 82, 66, 85, 70, 72, 79, 67, 84, 78, 69, 77]
/-- a node's text -/
def nodeT (n : Nd) : List UInt8 := [ltrs.getD n.kind.toNat 0] ++ numT n.fro ++ [45] ++ numT n.too
def dep (l : List Nd) (b : Int) : Nat := (anc l b).length
/-- what stands ahead of a node -/
def sepT (l : List Nd) (k : Nat) : List UInt8 :=
  if (nd l (k : Int)).up = (k : Int) - 1 then [40] else List.replicate (dep l ((k : Int) - 1) - dep l (nd l (k : Int)).up - 1) 41 ++ [32]
/-- some nodes from a place on, each with what stands ahead of it -/
def midT (l : List Nd) (a : Nat) : Nat → List UInt8
  | 0 => []
  | n + 1 => midT l a n ++ (sepT l (a + n) ++ nodeT (nd l ((a + n : Nat) : Int)))
/-- a right tree's text -/
def treeT (l : List Nd) : List UInt8 := nodeT (nd l 0) ++ midT l 1 (l.length - 1) ++ List.replicate (dep l ((l.length : Int) - 1) - 1) 41

theorem dep_le {l : List Nd} {i : Int} (hups : upsOk l i) : ∀ (n : Nat) (b : Int), b < n → b < i → -1 ≤ b → (dep l b : Int) ≤ b + 1
  | 0, b, h, _, h1 => by
    unfold dep
    rw [anc_neg (by omega)]; simp; omega
  | n + 1, b, h, hi, h1 => by
    by_cases hb : b < 0
    · unfold dep
      rw [anc_neg hb]; simp; omega
    · have hu := hups b (by omega) hi
      have := dep_le hups n (nd l b).up (by omega) (by omega) (by omega)
      unfold dep at *
      rw [anc_cons hups (by omega) hi, List.length_cons]; omega

theorem dep_cons {l : List Nd} {i b : Int} (h : upsOk l i) (h0 : 0 ≤ b) (h1 : b < i) : dep l b = dep l (nd l b).up + 1 := by
  unfold dep
  rw [anc_cons h h0 h1, List.length_cons]

theorem anc_up {l : List Nd} {i b u : Int} (h : upsOk l i) (h1 : b < i) (hu : u ∈ anc l b) (hne : u ≠ b) : 0 ≤ b ∧ u ∈ anc l (nd l b).up ∧ 0 ≤ (nd l b).up := by
  by_cases hb : b < 0
  · rw [anc_neg hb] at hu; cases hu
  · rw [anc_cons h (by omega) h1] at hu
    rcases List.mem_cons.1 hu with e | e
    · exact absurd e hne
    · refine ⟨by omega, e, ?_⟩
      by_cases hc : (nd l b).up < 0
      · rw [anc_neg hc] at e; cases e
      · omega

theorem pop_loop {l : List Nd} {i : Int} (hups : upsOk l i) (hi : i ≤ 1000000) (w0 w2 w3 w4 w5 w6 u : Int) : ∀ (n N : Nat) (b : Int) (out : List UInt8), b < n → n < N → b < i → u ∈ anc l b → out.length + n ≤ 1000000000 →
    lp5_10 N w0 l w2 w3 w4 w5 w6 u (anc l b).reverse (toBytes out) = some (.inl ((w0, l, w2, w3, ()), ((w4, w5, w6, u, ()), (anc l u).reverse, (), toBytes (out ++ (if b = u then [] else List.replicate (dep l b - dep l u - 1) 41 ++ [32])), ())))
  | 0, N, b, out, hb, _, hbi, hu, _ => by
    rw [anc_neg (by omega)] at hu; cases hu
  | n + 1, 0, b, out, _, h, _, _, _ => by omega
  | n + 1, N + 1, b, out, hb, hN, hbi, hu, ho => by
    rw [lp5_10, st5_10]
    have hb0 : 0 ≤ b := by
      by_cases hc : b < 0
      · rw [anc_neg hc] at hu; cases hu
      · omega
    have hA := anc_cons hups hb0 hbi
    have hL : lenI (anc l b).reverse = ((anc l (nd l b).up).length : Int) + 1 := by rw [lenI_eq, hA]; simp
    have hdl := dep_le hups (b.toNat + 1) b (by omega) hbi (by omega)
    unfold dep at hdl
    rw [hA, List.length_cons] at hdl
    have hs1 : subK .i64 (((anc l (nd l b).up).length : Int) + 1) 1 = ((anc l (nd l b).up).length : Int) := by rw [subK_eq (by omega) (by omega)]; omega
    have hlen : (anc l b).reverse.length = (anc l (nd l b).up).length + 1 := by rw [hA]; simp
    have hlast : nthN (anc l b).reverse 0 (natI ((anc l (nd l b).up).length : Int)) = b := by rw [hA, List.reverse_cons]; exact nth_last
    rw [hL, hs1, bif_t (ltI_t (by omega)), bif_t (inI_t (by omega) (by rw [hlen]; omega)), bif_t (ltL_t (by unfold natI; rw [hlen]; omega)), hlast]
    by_cases e : b = u
    · subst e
      rw [eqI_t rfl, Bool.not_true, cond_false, if_pos rfl, List.append_nil]
    · rw [eqI_f e, Bool.not_false, cond_true, if_neg e, bif_t (partI_t (by omega) (by omega) (by omega))]
      obtain ⟨_, hu2, hup0⟩ := anc_up hups hbi hu (fun h => e h.symm)
      have hupi := (hups b hb0 hbi).2
      have hA2 := anc_cons hups hup0 (show (nd l b).up < i by omega)
      have hL2 : (anc l (nd l b).up).length = (anc l (nd l (nd l b).up).up).length + 1 := by rw [hA2, List.length_cons]
      have hz : subZ ((anc l (nd l b).up).length : Int) 0 = ((anc l (nd l b).up).length : Int) := Int.sub_zero _
      have hs2 : subK .i64 ((anc l (nd l b).up).length : Int) 1 = ((anc l (nd l (nd l b).up).up).length : Int) := by rw [subK_eq (by omega) (by omega)]; omega
      have hz2 : addZ 0 ((anc l (nd l (nd l b).up).up).length : Int) = ((anc l (nd l (nd l b).up).up).length : Int) := Int.zero_add _
      rw [hz, hs2, hz2, leI_t (show (0 : Int) ≤ ((anc l (nd l (nd l b).up).up).length : Int) by omega), ltI_t (show ((anc l (nd l (nd l b).up).up).length : Int) < ((anc l (nd l b).up).length : Int) by omega), Bool.and_true, cond_true,
        bif_t (ltL_t (by unfold natI; rw [hlen]; omega))]
      have hsec : nthN (anc l b).reverse 0 (natI ((anc l (nd l (nd l b).up).up).length : Int)) = (nd l b).up := by
        rw [hA, hA2, List.reverse_cons, List.reverse_cons]
        unfold nthN natI
        rw [Int.toNat_natCast, List.getD_eq_getElem?_getD, List.append_assoc, List.getElem?_append_right (by simp), List.length_reverse, Nat.sub_self]; rfl
      have htk : takeN (anc l b).reverse (natI ((anc l (nd l b).up).length : Int)) = (anc l (nd l b).up).reverse := by
        rw [hA, List.reverse_cons]
        unfold takeN natI
        rw [Int.toNat_natCast, List.take_append_of_le_length (by simp), List.take_of_length_le (by simp)]
      have hdep : dep l b = dep l (nd l b).up + 1 := dep_cons hups hb0 hbi
      rw [hsec, htk]
      by_cases e2 : (nd l b).up = u
      · rw [eqI_t e2, Bool.not_true, cond_false, show ([32] : List Int) = toBytes [32] from rfl, toB_app, bif_t (fit_b (by rw [List.length_append, List.length_singleton]; omega)),
          pop_loop hups hi w0 w2 w3 w4 w5 w6 u n N (nd l b).up _ (by omega) (by omega) (by omega) hu2 (by rw [List.length_append, List.length_singleton]; omega), if_pos e2, hdep, e2, List.append_nil]
        rw [show dep l u + 1 - dep l u - 1 = 0 by omega]; rfl
      · obtain ⟨_, hu3, _⟩ := anc_up hups (show (nd l b).up < i by omega) hu2 (fun h => e2 h.symm)
        have hd2 : dep l (nd l b).up = dep l (nd l (nd l b).up).up + 1 := dep_cons hups hup0 (by omega)
        have hge : dep l u ≤ dep l (nd l (nd l b).up).up := by
          have := anc_drop hups ((nd l (nd l b).up).up.toNat + 1) (nd l (nd l b).up).up u (by omega) (by have := (hups (nd l b).up hup0 (by omega)).2; omega)
          rw [if_pos hu3] at this
          unfold dep
          rw [← this]
          exact (List.dropWhile_sublist _).length_le
        rw [eqI_f e2, Bool.not_false, cond_true, show ([41] : List Int) = toBytes [41] from rfl, toB_app, bif_t (fit_b (by rw [List.length_append, List.length_singleton]; omega)),
          pop_loop hups hi w0 w2 w3 w4 w5 w6 u n N (nd l b).up _ (by omega) (by omega) (by omega) hu2 (by rw [List.length_append, List.length_singleton]; omega), if_neg e2,
          show dep l b - dep l u - 1 = (dep l (nd l b).up - dep l u - 1) + 1 by omega]
        simp only [List.append_assoc, List.replicate_succ, List.cons_append, List.nil_append]
end Go.Proofs.YtnmaceljkegenaaDoor
