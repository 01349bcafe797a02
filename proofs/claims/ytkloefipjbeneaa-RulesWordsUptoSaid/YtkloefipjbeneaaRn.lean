/-
  How deep a node is.
-/
import Derived.Test.YtkloefipjbeneaaRa
import Derived.Test.YtkloefipjbeneaaFb
namespace Go.Proofs.Ytkloefipjbeneaa
open Go.RowKit
set_option linter.unusedVariables false
set_option linter.unusedSimpArgs false
set_option maxRecDepth 100000

def nests (k : Int) : Bool := decide (9 ≤ k ∧ k ≤ 14 ∨ k = 16)

theorem fn33_eq (k : Int) : fn33 k = some (nests k, ()) := by
  unfold fn33 nests
  by_cases a : 9 ≤ k
  · rw [bif_t (leI_t a)]
    by_cases b : k ≤ 14
    · rw [bif_t (leI_t b), decide_eq_true (.inl ⟨a, b⟩)]
    · rw [bif_f (leI_n b)]
      congr 2
      simp only [eqI]
      by_cases c : k = 16
      · simp [c]
      · rw [decide_eq_false (by omega)]; simpa using c
  · rw [bif_f (leI_n a)]
    congr 2
    simp only [eqI]
    by_cases c : k = 16
    · simp [c]
    · rw [decide_eq_false (by omega)]; simpa using c

theorem nest_tab : ∀ n : Fin 19, leI 0 (ibW [66, 85, 70, 72, 79, 67, 78] (byteAt [63, 80, 76, 65, 73, 83, 88, 87, 82, 66, 85, 70, 72, 79, 67, 84, 78, 69, 77] ((n.val : Nat) : Int))) = nests ((n.val : Nat) : Int) := by decide +kernel

theorem nest_eq {k : Int} (h1 : 1 ≤ k) (h2 : k ≤ 18) : leI 0 (ibW [66, 85, 70, 72, 79, 67, 78] (byteAt [63, 80, 76, 65, 73, 83, 88, 87, 82, 66, 85, 70, 72, 79, 67, 84, 78, 69, 77] k)) = nests k := by
  have := nest_tab ⟨k.toNat, by omega⟩
  simp only at this
  rwa [show ((k.toNat : Nat) : Int) = k by omega] at this

/-- counts of a row's end -/
theorem lp22_eq {l : List Nd} (hl : l.length < 1000000000000) (hok : okTo l l.length) (i : Int) {path : List Int} (hp : ∀ k ∈ path, 0 ≤ k ∧ k < l.length) (hpl : path.length < 1000000000000) : ∀ (N j : Nat) (c : Int), path.length - j < N → j ≤ path.length → 0 ≤ c → c ≤ j →
    lp22_3 N l i c path (lenI path) (j : Int) = some (.inl ((c + ((path.drop j).countP fun k => !(eqI k i) && nests (nd l k).kind : Nat), ()), ()))
  | 0, j, c, h, _, _, _ => by omega
  | N + 1, j, c, h, hj, hc, hcj => by
    rw [lp22_3, st22_3]
    by_cases e : j = path.length
    · subst e
      rw [bif_f (ltI_f (by rw [lenI_eq]; omega))]
      simp
    · have hjl : j < path.length := by omega
      have ea : addK .i64 (j : Int) 1 = ((j + 1 : Nat) : Int) := by rw [addK_eq (by omega) (by omega)]; rfl
      have ec : addK .i64 c 1 = c + 1 := addK_eq (by omega) (by omega)
      have hd : path.drop j = path[j] :: path.drop (j + 1) := List.drop_eq_getElem_cons hjl
      have hg : getI path 0 (j : Int) = path[j] := by
        rw [getI_eq (by simpa using hjl)]; simp
      have hm := hp path[j] (List.getElem_mem hjl)
      rw [bif_t (ltI_t (by rw [lenI_eq]; omega)), bif_t (inI_t (by omega) (by omega)), hg, ea, ec]
      generalize path[j] = k at *
      have ih0 := lp22_eq hl hok i hp hpl N (j + 1) c (by omega) (by omega) hc (by omega)
      have ih1 := lp22_eq hl hok i hp hpl N (j + 1) (c + 1) (by omega) (by omega) (by omega) (by omega)
      obtain ⟨hk1, hk2, _⟩ := hok k hm.1 hm.2
      rw [hd, List.countP_cons]
      by_cases ei : k = i
      · rw [bif_f (by rw [eqI_t ei]; rfl)]
        rw [ih0]
        simp [eqI_t ei]
      · rw [bif_t (by rw [eqI_f ei]; rfl), bif_t (inI_t hm.1 hm.2), bif_t (ltI_t (by show 0 < (nd l k).kind; omega)), bif_t (inI_t hm.1 hm.2), bif_t (ltI_t (by show (nd l k).kind < 19; omega)), bif_t (inI_t hm.1 hm.2),
          bif_t (inI_t (by show 0 ≤ (nd l k).kind; omega) (by show (nd l k).kind < ((19 : Nat) : Int); omega)), fn39, fn58, obind_some, obind_some]
        simp only
        rw [nest_eq hk1 hk2]
        cases hn : nests (nd l k).kind with
        | true =>
          rw [bif_t rfl, ih1]
          simp only [eqI_f ei, Bool.not_false, Bool.true_and, if_true]
          rw [show c + 1 + ((List.countP (fun k => !(eqI k i) && nests (nd l k).kind) (path.drop (j + 1)) : Nat) : Int) = c + ((List.countP (fun k => !(eqI k i) && nests (nd l k).kind) (path.drop (j + 1)) + 1 : Nat) : Int) by omega]
        | false =>
          rw [bif_f rfl, ih0]
          simp

/-- the document's count -/
theorem lp23_eq {l : List Nd} (hl : l.length < 1000000000000) (hups : upsOk l l.length) {i : Nat} (hi : i < l.length) : ∀ (N k : Nat), i - k < N → k ≤ i →
    lp23_3 N l (i : Int) ((filt (fun k => isAnc l i k && nests (nd l k).kind) k).length : Int) (k : Int) = some (.inl ((((filt (fun k => isAnc l i k && nests (nd l k).kind) i).length : Int), ()), ()))
  | 0, k, h, _ => by omega
  | N + 1, k, h, hk => by
    rw [lp23_3, st23_3]
    by_cases e : k = i
    · subst e
      rw [bif_f (ltI_f (by omega))]
    · have ea : addK .i64 (k : Int) 1 = ((k + 1 : Nat) : Int) := by rw [addK_eq (by omega) (by omega)]; rfl
      have hlen := filt_len (fun k => isAnc l i k && nests (nd l k).kind) k
      have ec : addK .i64 ((filt (fun k => isAnc l i k && nests (nd l k).kind) k).length : Int) 1 = ((filt (fun k => isAnc l i k && nests (nd l k).kind) k).length : Int) + 1 := addK_eq (by omega) (by omega)
      have ih := lp23_eq hl hups hi N (k + 1) (by omega) (by omega)
      rw [bif_t (ltI_t (by omega)), bif_t (inI_t (by omega) (by omega)), fn33_eq, obind_some, fn18_eq hups (by omega) hl (k : Int) (i : Int) (by omega), obind_some, ea, ec]
      simp only
      cases hn : nests (nd l (k : Int)).kind with
      | false =>
        rw [bif_f rfl]
        rw [filt_no (by simp [hn])] at ih
        exact ih
      | true =>
        rw [bif_t rfl]
        by_cases hm : (k : Int) ∈ anc l (i : Int)
        · rw [bif_t (decide_eq_true hm)]
          have e1 : (filt (fun k => isAnc l i k && nests (nd l k).kind) (k + 1)).length = (filt (fun k => isAnc l i k && nests (nd l k).kind) k).length + 1 := by
            simp [filt, isAnc, hm, hn]
          rw [e1] at ih
          exact ih
        · rw [bif_f (decide_eq_false hm)]
          rw [filt_no (by simp [isAnc, hm])] at ih
          exact ih

theorem count_filt (p q : Int → Bool) {i : Nat} : ∀ (m : Nat), m ≤ i → ((filt p m).countP fun k => !(eqI k (i : Int)) && q k) = (filt (fun k => p k && q k) m).length
  | 0, _ => rfl
  | m + 1, h => by
    simp only [filt, List.countP_append, List.length_append]
    rw [count_filt p q m (by omega)]
    congr 1
    have : eqI (m : Int) (i : Int) = false := eqI_f (by omega)
    by_cases hp : p (m : Int) = true <;> by_cases hq : q (m : Int) = true <;> simp [this, hq, hp]

theorem deep_eq {x0 : List Nd} (hl : x0.length < 1000000000000) {n : Int} (hR : Rt x0 n) {i : Nat} (hi : i < x0.length) : ∃ d : Int, fn22 x0 (i : Int) = some (d, ()) ∧ fn23 x0 (i : Int) = some (d, ()) := by
  obtain ⟨hne, hup, hfr, hto, hok⟩ := hR
  have hups := hok.ups hup
  have hbig := big_fuel (n := x0.length + 1) (by omega)
  have hlen := anc_len hups x0.length (i : Int) (by omega) (by omega) (by omega)
  have hmem : ∀ k ∈ (anc x0 (i : Int)).reverse, 0 ≤ k ∧ k < x0.length := fun k hk => by
    have := anc_mem hups x0.length (i : Int) k (by omega) (by omega) (by simpa using hk)
    omega
  have e22 := lp22_eq hl hok (i : Int) hmem (by simp; omega) fuelN 0 0 (by simp; omega) (by omega) (by omega) (by omega)
  have e23 := lp23_eq hl hups hi fuelN 0 (by omega) (by omega)
  have hc : ((anc x0 (i : Int)).reverse.countP fun k => !(eqI k (i : Int)) && nests (nd x0 k).kind) = (filt (fun k => isAnc x0 i k && nests (nd x0 k).kind) i).length := by
    rw [anc_filt hups x0.length (i : Int) (by omega) (by omega) (by omega), show ((i : Int) + 1).toNat = i + 1 by omega]
    simp only [filt, List.countP_append]
    rw [count_filt (isAnc x0 i) (fun k => nests (nd x0 k).kind) i (by omega)]
    simp only [isAnc, anc_self hups (b := (i : Int)) (by omega) (by omega), decide_true, if_true, List.countP_cons, List.countP_nil]
    simp [eqI_t (rfl : (i : Int) = i)]
  have f22 : fn22 x0 (i : Int) = some (((filt (fun k => isAnc x0 i k && nests (nd x0 k).kind) i).length : Int), ()) := by
    rw [fn22, fn22_eq hl hups (i : Int), if_pos (by omega), obind_some]
    simp only
    rw [show lp22_3 fuelN x0 (i : Int) 0 (anc x0 (i : Int)).reverse (lenI (anc x0 (i : Int)).reverse) 0 = _ from e22, obind_some]
    simp only [osum, List.drop_zero, hc]
    congr 2
    omega
  have f23 : fn23 x0 (i : Int) = some (((filt (fun k => isAnc x0 i k && nests (nd x0 k).kind) i).length : Int), ()) := by
    rw [fn23, show lp23_3 fuelN x0 (i : Int) 0 0 = _ from e23, obind_some]
    rfl
  exact ⟨_, f22, f23⟩
end Go.Proofs.Ytkloefipjbeneaa
