/-
  InsertCommon: the two ways to the longest common beginning agree.
-/
import Derived.Test.YtgcbehapggfhmaaGreatDoorFa
import Derived.Test.YtgcbehapggfhmaaGreatDoorKb
namespace Go.Proofs.YtgcbehapggfhmaaGreatDoor
open Go.RowKit
set_option linter.unusedVariables false
set_option linter.unusedSimpArgs false

theorem getI_at {l : List (List UInt8)} {i : Nat} (h : i < l.length) : getI l [] (i : Int) = l[i] := by simp [getI, List.getD, h]
theorem next_i {i : Nat} (h : i < 1000) : addK .i64 (i : Int) 1 = ((i + 1 : Nat) : Int) := by rw [addK_eq (by omega) (by omega)]; rfl

theorem lp3_6_ok {l : List (List UInt8)} (hl : l.length ≤ 20) : ∀ (k fuel i : Nat), k = l.length - i → k < fuel → i ≤ l.length →
    lp3_6 fuel l (i : Int) = some (.inr ((true, ()), ())) ∨ (lp3_6 fuel l (i : Int) = some (.inl ((l, ()), ())) ∧ ∀ s ∈ l.drop i, s.length ≤ 40)
  | k, 0, i, _, h, _ => by omega
  | k, fuel + 1, i, hk, hf, hi => by
    simp only [lp3_6, st3_6]
    by_cases h1 : i < l.length
    · rw [bif_t (ltI_t (by rw [lenI_eq]; omega)), bif_t (inI_t (by omega) (by omega)), getI_at h1]
      by_cases h2 : 40 < l[i].length
      · rw [bif_t (ltI_t (by rw [lenI_eq]; omega))]
        exact .inl rfl
      · rw [bif_f (ltI_f (by rw [lenI_eq]; omega)), next_i (by omega)]
        rcases lp3_6_ok hl (k - 1) fuel (i + 1) (by omega) (by omega) (by omega) with h3 | ⟨h3, h4⟩
        · exact .inl h3
        · refine .inr ⟨h3, fun s hs => ?_⟩
          rw [List.drop_eq_getElem_cons h1] at hs
          rcases List.mem_cons.1 hs with rfl | hs
          · omega
          · exact h4 s hs
    · rw [bif_f (ltI_f (by rw [lenI_eq]; omega))]
      refine .inr ⟨rfl, fun s hs => ?_⟩
      rw [List.drop_of_length_le (by omega)] at hs
      cases hs

theorem lp6_8_ok {l : List (List UInt8)} (hl : l.length ≤ 20) (h0 : 0 < l.length) (t : List UInt8) (n : Nat) (hn : n ≤ l[0].length) : ∀ (k fuel i : Nat), k = l.length - i → k < fuel → i ≤ l.length →
    (lp6_8 fuel l t (n : Int) (i : Int) = some (.inl ((l, (n : Int), ()), ())) ∧ ∀ s ∈ l.drop i, n ≤ s.length ∧ s.take n = l[0].take n) ∨
    (lp6_8 fuel l t (n : Int) (i : Int) = some (.inr ((t, ()), ())) ∧ ¬ ∀ s ∈ l.drop i, n ≤ s.length ∧ s.take n = l[0].take n)
  | k, 0, i, _, h, _ => by omega
  | k, fuel + 1, i, hk, hf, hi => by
    simp only [lp6_8, st6_8]
    by_cases h1 : i < l.length
    · have hd := List.drop_eq_getElem_cons h1
      rw [bif_t (ltI_t (by rw [lenI_eq]; omega)), bif_t (inI_t (by omega) (by omega)), getI_at h1]
      by_cases h2 : l[i].length < n
      · rw [bif_t (ltI_t (by rw [lenI_eq]; omega))]
        refine .inr ⟨rfl, fun hall => ?_⟩
        have := (hall l[i] (by rw [hd]; exact List.mem_cons_self)).1
        omega
      · have hz : getI l [] 0 = l[0] := getI_at (i := 0) h0
        rw [bif_f (ltI_f (by rw [lenI_eq]; omega)), bif_t (inI_t (by omega) (by omega)), bif_t (partI_t (by omega) (by omega) (by rw [lenI_eq]; omega)), bif_t (inI_t (by omega) (by omega)), hz,
          bif_t (partI_t (by omega) (by omega) (by rw [lenI_eq]; omega)), sub0, sub0]
        by_cases h3 : l[i].take n = l[0].take n
        · rw [eqS_t h3, next_i (by omega)]
          simp only [Bool.not_true, cond_false]
          rcases lp6_8_ok hl h0 t n hn (k - 1) fuel (i + 1) (by omega) (by omega) (by omega) with ⟨h4, h5⟩ | ⟨h4, h5⟩
          · refine .inl ⟨h4, fun s hs => ?_⟩
            rw [hd] at hs
            rcases List.mem_cons.1 hs with rfl | hs
            · exact ⟨by omega, h3⟩
            · exact h5 s hs
          · exact .inr ⟨h4, fun hall => h5 fun s hs => hall s (by rw [hd]; exact List.mem_cons_of_mem _ hs)⟩
        · rw [eqS_f h3, Bool.not_false, bif_t rfl]
          exact .inr ⟨rfl, fun hall => h3 (hall l[i] (by rw [hd]; exact List.mem_cons_self)).2⟩
    · rw [bif_f (ltI_f (by rw [lenI_eq]; omega))]
      refine .inl ⟨rfl, fun s hs => ?_⟩
      rw [List.drop_of_length_le (by omega)] at hs
      cases hs

theorem lp6_5_ok {l : List (List UInt8)} (hl : l.length ≤ 20) (h0 : 0 < l.length) (h40 : l[0].length ≤ 40) {R : List UInt8} (hR : (l.drop 1).foldl cutF1 l[0] = R) : ∀ (k fuel n : Nat), k = R.length + 1 - n → k < fuel → 1 ≤ n → n ≤ R.length + 1 →
    lp6_5 fuel l (l[0].take (n - 1)) (n : Int) = some (.inl ((R, ()), ())) ∨ lp6_5 fuel l (l[0].take (n - 1)) (n : Int) = some (.inr ((R, ()), ()))
  | k, 0, n, _, h, _, _ => by omega
  | k, fuel + 1, n, hk, hf, h1, hn => by
    have hle := fold_le (l.drop 1) l[0]
    rw [hR] at hle
    have hpre := fold_pre (l.drop 1) l[0]
    rw [hR] at hpre
    have hRl := ((hle R.length).1 (Nat.le_refl _)).1
    have hz : getI l [] 0 = l[0] := getI_at (i := 0) h0
    have hd : l = l[0] :: l.drop 1 := by simpa using List.drop_eq_getElem_cons h0
    simp only [lp6_5, st6_5]
    rw [bif_t (inI_t (by omega) (by omega)), hz]
    by_cases h2 : n ≤ l[0].length
    · rw [bif_t (leI_t (by rw [lenI_eq]; omega))]
      have hall : (∀ s ∈ l.drop 0, n ≤ s.length ∧ s.take n = l[0].take n) ↔ n ≤ R.length := by
        rw [hle n, List.drop_zero]
        constructor
        · intro h; exact ⟨h2, fun s hs => h s (by rw [hd]; exact List.mem_cons_of_mem _ hs)⟩
        · rintro ⟨_, h⟩ s hs
          rw [hd] at hs
          rcases List.mem_cons.1 hs with rfl | hs
          · exact ⟨h2, rfl⟩
          · exact h s hs
      rcases lp6_8_ok hl h0 (l[0].take (n - 1)) n h2 (l.length - 0) fuelN 0 rfl (big_fuel (by omega)) (by omega) with ⟨h4, h5⟩ | ⟨h4, h5⟩
      · have h5 := hall.1 h5
        rw [show ((0 : Nat) : Int) = 0 from rfl] at h4
        rw [h4]
        simp only [obind, osum]
        rw [bif_t (inI_t (by omega) (by omega)), hz, bif_t (partI_t (by omega) (by omega) (by rw [lenI_eq]; omega)), sub0, next_i (by omega)]
        exact lp6_5_ok hl h0 h40 hR (k - 1) fuel (n + 1) (by omega) (by omega) (by omega) (by omega)
      · rw [hall] at h5
        rw [show ((0 : Nat) : Int) = 0 from rfl] at h4
        rw [h4]
        simp only [obind, osum]
        right
        rw [show n - 1 = R.length by omega, ← hpre]
    · rw [bif_f (leI_f (by rw [lenI_eq]; omega))]
      left
      rw [show n - 1 = R.length by omega, ← hpre]

theorem lp5_7_ok (s h : List UInt8) (h40 : h.length ≤ 40) (v3 v4 : Int) (v5 : List (List UInt8)) (v6 : Int) (v7 : Bool) (v8 : List (List UInt8)) (v9 : Int) (v10 v11 v12 v13 : List UInt8) (v14 : List (List UInt8)) : ∀ (k fuel n : Nat), k = h.length - n → k < fuel → n ≤ lcpN h s →
    lp5_7 fuel s (h.length : Int) (n : Int) v3 v4 v5 v6 v7 v8 v9 v10 v11 v12 v13 v14 h = some (.inl ((), ((), (v3, v4, v5, v6, v7, v8, v9, v10, v11, ()), (v12, ()), (), (), ()), ((v13, ()), (v14, ()), (cutF1 h s, ()), ()))) ∨
    lp5_7 fuel s (h.length : Int) (n : Int) v3 v4 v5 v6 v7 v8 v9 v10 v11 v12 v13 v14 h = some (.inr ((), ((), (v3, v4, v5, v6, v7, v8, v9, v10, v11, ()), (v12, ()), (), (), ()), ((v13, ()), (v14, ()), (cutF1 h s, ()), ())))
  | k, 0, n, _, hf, _ => by omega
  | k, fuel + 1, n, hk, hf, hn => by
    have hb := (lcpN_le h s _).1 (Nat.le_refl _)
    simp only [lp5_7, st5_7]
    by_cases h1 : n < h.length
    · rw [bif_t (ltI_t (by omega))]
      by_cases h2 : n = lcpN h s
      · rcases lcpN_at h s (by omega) with h3 | ⟨h3, h4⟩
        · rw [bif_t (eqI_t (by rw [lenI_eq]; omega)), bif_t (partI_t (by omega) (by omega) (by rw [lenI_eq]; omega)), sub0]
          left
          rw [h2]; rfl
        · rw [bif_f (eqI_f (by rw [lenI_eq]; omega)), bif_t (inI_t (by omega) (by omega)), bif_t (inI_t (by omega) (by omega))]
          have hne : eqI (byteAt s n) (byteAt h n) = false := by
            refine eqI_f fun e => h4 ?_
            rw [← h2]
            simp only [byteAt, Int.toNat_natCast] at e
            exact UInt8.toNat_inj.1 (by omega)
          rw [hne, Bool.not_false, cond_true, bif_t (partI_t (by omega) (by omega) (by rw [lenI_eq]; omega)), sub0]
          left
          rw [h2]; rfl
      · have h3 := lcpN_lt h s n (by omega)
        rw [bif_f (eqI_f (by rw [lenI_eq]; omega)), bif_t (inI_t (by omega) (by omega)), bif_t (inI_t (by omega) (by omega))]
        have he : eqI (byteAt s n) (byteAt h n) = true := eqI_t (by simp only [byteAt, Int.toNat_natCast]; rw [h3.2.2])
        rw [he, Bool.not_true, cond_false, next_i (by omega)]
        exact lp5_7_ok s h h40 v3 v4 v5 v6 v7 v8 v9 v10 v11 v12 v13 v14 (k - 1) fuel (n + 1) (by omega) (by omega) (by omega)
    · rw [bif_f (ltI_f (by omega))]
      right
      have : lcpN h s = h.length := by omega
      have e : cutF1 h s = h := by unfold cutF1; rw [this, List.take_length]
      rw [e]

theorem lp5_12_1_ok {l : List (List UInt8)} (hl : l.length ≤ 20) : ∀ (k fuel i : Nat) (h v1 v2 : List UInt8), h.length ≤ 40 → k = l.length - i → k < fuel → i ≤ l.length →
    ∃ a b, lp5_12_1 fuel (i : Int) v1 v2 l h = some (.inl ((), ((a, ()), (), (), ()), ((b, ()), (l, ()), ((l.drop i).foldl cutF1 h, ()), ())))
  | k, 0, i, h, v1, v2, _, _, hf, _ => by omega
  | k, fuel + 1, i, h, v1, v2, h40, hk, hf, hi => by
    simp only [lp5_12_1, st5_12_1]
    by_cases h1 : i < l.length
    · rw [bif_t (ltI_t (by rw [lenI_eq]; omega)), bif_t (inI_t (by omega) (by omega)), getI_at h1, List.drop_eq_getElem_cons h1, List.foldl_cons]
      have hc : (cutF1 h l[i]).length ≤ 40 := by
        rw [cutF1_len]
        have := ((lcpN_le h l[i] _).1 (Nat.le_refl _)).1
        omega
      have hz : lenI h = (h.length : Int) := rfl
      rw [hz]
      rcases lp5_7_ok l[i] h h40 i i l (lenI l) (ltI i (lenI l)) l i l[i] l[i] v1 v2 l (h.length - 0) fuelN 0 rfl (big_fuel (by omega)) (by omega) with h3 | h3
      · rw [show ((0 : Nat) : Int) = 0 from rfl] at h3
        rw [h3]
        simp only [obind, osum]
        rw [next_i (by omega)]
        exact lp5_12_1_ok hl (k - 1) fuel (i + 1) _ _ _ hc (by omega) (by omega) (by omega)
      · rw [show ((0 : Nat) : Int) = 0 from rfl] at h3
        rw [h3]
        simp only [obind, osum]
        rw [next_i (by omega)]
        exact lp5_12_1_ok hl (k - 1) fuel (i + 1) _ _ _ hc (by omega) (by omega) (by omega)
    · rw [bif_f (ltI_f (by rw [lenI_eq]; omega)), List.drop_of_length_le (by omega)]
      exact ⟨_, _, rfl⟩

theorem law3 (x0 : List (List UInt8)) (w : wfD (.list .str) x0) : fn3 x0 = some (true, ()) := by
  unfold fn3
  by_cases hl : 20 < x0.length
  · rw [bif_t (ltI_t (by rw [lenI_eq]; omega))]
  · rw [bif_f (ltI_f (by rw [lenI_eq]; omega))]
    rcases lp3_6_ok (l := x0) (by omega) (x0.length - 0) fuelN 0 rfl (big_fuel (by omega)) (by omega) with h | ⟨h, h40⟩
    · rw [show ((0 : Nat) : Int) = 0 from rfl] at h
      rw [h]
      rfl
    · rw [show ((0 : Nat) : Int) = 0 from rfl] at h
      rw [h]
      simp only [obind, osum]
      rw [List.drop_zero] at h40
      by_cases h0 : x0 = []
      · subst h0
        rfl
      · have hp : 0 < x0.length := List.length_pos_iff.2 h0
        have hz : getI x0 [] 0 = x0[0] := getI_at (i := 0) hp
        have hz40 := h40 x0[0] (List.getElem_mem _)
        have e5 : fn5 x0 = some ((x0.drop 1).foldl cutF1 x0[0], ()) := by
          unfold fn5
          rw [bif_f (eqI_f (by rw [lenI_eq]; omega)), bif_t (inI_t (by omega) (by omega)), hz]
          obtain ⟨a, b, h5⟩ := lp5_12_1_ok (l := x0) (by omega) (x0.length - 1) fuelN 1 x0[0] [] [] hz40 rfl (big_fuel (by omega)) (by omega)
          rw [show ((1 : Nat) : Int) = 1 from rfl] at h5
          rw [h5]
          rfl
        have e6 : fn6 x0 = some ((x0.drop 1).foldl cutF1 x0[0], ()) := by
          unfold fn6
          rw [bif_f (eqI_f (by rw [lenI_eq]; omega))]
          have hRl := ((fold_le (x0.drop 1) x0[0] _).1 (Nat.le_refl _)).1
          have := lp6_5_ok (l := x0) (by omega) hp hz40 rfl ((List.foldl cutF1 x0[0] (x0.drop 1)).length + 1 - 1) fuelN 1 rfl (big_fuel (by omega)) (by omega) (by omega)
          rw [show ((1 : Nat) : Int) = 1 from rfl, Nat.sub_self, List.take_zero] at this
          rcases this with h6 | h6
          · rw [h6]; rfl
          · rw [h6]; rfl
        rw [e5, e6]
        simp only []
        rw [eqS_t rfl]
end Go.Proofs.YtgcbehapggfhmaaGreatDoor
