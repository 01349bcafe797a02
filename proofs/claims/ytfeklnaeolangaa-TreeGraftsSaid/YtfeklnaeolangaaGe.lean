/-
  The kids of a node, those above it, and where what is below it ends.
-/
import Derived.Test.YtfeklnaeolangaaGd
import Derived.Test.YtfeklnaeolangaaFc
namespace Go.Proofs.Ytfeklnaeolangaa
open Go.RowKit
set_option linter.unusedVariables false
set_option linter.unusedSimpArgs false

/-- the numbers below some that are so -/
def filt (p : Int → Bool) : Nat → List Int
  | 0 => []
  | k + 1 => filt p k ++ (if p (k : Int) then [(k : Int)] else [])

theorem filt_len (p : Int → Bool) : ∀ k, (filt p k).length ≤ k
  | 0 => Nat.le_refl _
  | k + 1 => by
    have := filt_len p k
    simp only [filt, List.length_append]
    split <;> simp <;> omega

theorem filt_ext {p q : Int → Bool} : ∀ (k : Nat), (∀ j : Nat, j < k → p (j : Int) = q (j : Int)) → filt p k = filt q k
  | 0, _ => rfl
  | k + 1, h => by simp only [filt]; rw [filt_ext k fun j hj => h j (by omega), h k (by omega)]

theorem filt_none {p : Int → Bool} {k : Nat} : ∀ (d : Nat), (∀ j : Nat, k ≤ j → j < k + d → p (j : Int) = false) → filt p (k + d) = filt p k
  | 0, _ => rfl
  | d + 1, h => by
    rw [← Nat.add_assoc]
    simp only [filt]
    rw [filt_none d fun j a b => h j a (by omega), h (k + d) (by omega) (by omega)]
    simp

theorem filt_pre (p : Int → Bool) (k : Nat) : ∀ d : Nat, ∃ t, filt p (k + d) = filt p k ++ t
  | 0 => ⟨[], by simp⟩
  | d + 1 => by
    obtain ⟨t, ht⟩ := filt_pre p k d
    refine ⟨t ++ (if p ((k + d : Nat) : Int) then [((k + d : Nat) : Int)] else []), ?_⟩
    rw [← Nat.add_assoc]
    simp only [filt]
    rw [ht, List.append_assoc]

theorem filt_at {p : Int → Bool} {k m : Nat} (hk : k < m) (hp : p (k : Int) = true) : (filt p k).length < (filt p m).length ∧ (filt p m).getD (filt p k).length 0 = (k : Int) ∧ (filt p (k + 1)).length = (filt p k).length + 1 := by
  obtain ⟨t, ht⟩ := filt_pre p (k + 1) (m - (k + 1))
  rw [show k + 1 + (m - (k + 1)) = m by omega] at ht
  have e : filt p (k + 1) = filt p k ++ [(k : Int)] := by simp only [filt]; rw [if_pos hp]
  rw [ht, e]
  refine ⟨by simp, ?_, by simp⟩
  simp [List.getD, List.getElem?_append]

theorem filt_no {p : Int → Bool} {k : Nat} (hp : p (k : Int) = false) : filt p (k + 1) = filt p k := by simp [filt, hp]

/-! ### tree.is, Kids -/
theorem fn31_eq (l : List Nd) (i : Int) : fn31 l i = some (decide (0 ≤ i ∧ i < l.length), ()) := by
  rw [fn31]
  by_cases c : 0 ≤ i
  · rw [bif_t (leI_t c)]
    by_cases c2 : i < l.length
    · rw [ltI_t (b := lenI l) (by rw [lenI_eq]; exact c2)]; simp [c, c2]
    · rw [ltI_n (b := lenI l) (by rw [lenI_eq]; exact c2)]; simp [c2]
  · rw [bif_f (leI_n c)]; simp [c]

def isKid (l : List Nd) (i : Int) (k : Int) : Bool := decide ((nd l k).up = i)

theorem lp21 {l : List Nd} (hl : l.length < 1000000000000) (i : Int) : ∀ (N k : Nat), l.length - k < N → k ≤ l.length →
    lp21_4 N i l (lenI l) (k : Int) (filt (isKid l i) k) = some (.inl ((), (filt (isKid l i) l.length, ())))
  | 0, k, h, _ => by omega
  | N + 1, k, h, hk => by
    rw [lp21_4, st21_4]
    by_cases e : k = l.length
    · subst e
      rw [bif_f (ltI_f (by rw [lenI_eq]; omega))]
    · have ea : addK .i64 (k : Int) 1 = ((k + 1 : Nat) : Int) := by rw [addK_eq (by omega) (by omega)]; rfl
      have hlen := filt_len (isKid l i) k
      rw [bif_t (ltI_t (by rw [lenI_eq]; omega)), bif_t (inI_t (by omega) (by omega)), ea]
      have ih := lp21 hl i N (k + 1) (by omega) (by omega)
      by_cases c : (nd l (k : Int)).up = i
      · have e2 : catL (filt (isKid l i) k) [(k : Int)] = filt (isKid l i) (k + 1) := by simp [catL, filt, isKid, c]
        rw [bif_t (eqI_t c), e2, bif_t]
        · exact ih
        · rw [← e2]; simp only [fitI, catL, roomN, decide_eq_true_eq, List.length_append, List.length_singleton]; omega
      · rw [bif_f (eqI_f c), ← filt_no (p := isKid l i) (k := k) (by simp [isKid, c])]
        exact ih

theorem fn21_eq {l : List Nd} (hl : l.length < 1000000000000) (i : Int) : fn21 l i = some (if 0 ≤ i ∧ i < l.length then filt (isKid l i) l.length else [], ()) := by
  rw [fn21, fn31_eq, obind_some]
  by_cases c : 0 ≤ i ∧ i < l.length
  · rw [bif_f (by simp [c]), if_pos c]
    have := lp21 hl i fuelN 0 (by have := big_fuel (n := l.length) (by omega); omega) (by omega)
    rw [show lp21_4 fuelN i l (lenI l) 0 [] = _ from this]; rfl
  · rw [bif_t (by simp [c]), if_neg c]

/-! ### Path -/
theorem swap_at {s : List Int} {i j : Nat} (hi : i < s.length) (hj : j < s.length) (m : Nat) : (setI (setI s i (nthN s 0 j)) j (nthN s 0 i)).getD m 0 = if m = j then s.getD i 0 else if m = i then s.getD j 0 else s.getD m 0 := by
  simp only [setI, nthN, List.getD, List.getElem?_set, List.length_set]
  by_cases a : m = j
  · subst a; simp [hj]
  · rw [if_neg (Ne.symm a), if_neg a]
    by_cases b : m = i
    · subst b; simp [hi]
    · rw [if_neg (Ne.symm b), if_neg b]

theorem reverse_go : ∀ (N i : Nat) (j : Int) (s : List Int), (i : Int) + j = (s.length : Int) - 1 → j - i < 2 * N - 1 → s.length < 1000000000000 → 0 < N →
    ∃ r : List Int, lp22_32_1 N i j s = some (.inl ((), ((), (), ()), (r, ()))) ∧ r.length = s.length ∧ ∀ k : Nat, k < s.length → r.getD k 0 = if (i : Int) ≤ k ∧ (k : Int) ≤ j then s.getD (s.length - 1 - k) 0 else s.getD k 0
  | 0, i, j, s, _, _, _, h => by omega
  | N + 1, i, j, s, h1, h2, h3, _ => by
    rw [lp22_32_1, st22_32_1]
    by_cases c : (i : Int) < j
    · obtain ⟨jn, rfl⟩ : ∃ jn : Nat, j = jn := ⟨j.toNat, by omega⟩
      have hi : i < s.length := by omega
      have hj : jn < s.length := by omega
      have n1 : natI (i : Int) = i := rfl
      have n2 : natI (jn : Int) = jn := rfl
      have b1 : inI s (jn : Int) = true := inI_t (by omega) (by omega)
      have b2 : inI s (i : Int) = true := inI_t (by omega) (by omega)
      have hlen : (setI (setI s i (nthN s 0 jn)) jn (nthN s 0 i)).length = s.length := by simp [setI]
      rw [bif_t (ltI_t c), bif_t b1, bif_t b2, n1, n2, bif_t (ltL_t hj), bif_t (ltL_t hi), bif_t b2, bif_t (ltL_t hi), bif_t (inI_t (by omega) (by simp [setI]; omega)), bif_t (ltL_t (by simp [setI]; omega))]
      have ea : addK .i64 (i : Int) 1 = ((i + 1 : Nat) : Int) := by rw [addK_eq (by omega) (by omega)]; rfl
      have es : subK .i64 (jn : Int) 1 = (jn : Int) - 1 := subK_eq (by omega) (by omega)
      rw [ea, es]
      obtain ⟨r, k1, k2, k3⟩ := reverse_go N (i + 1) ((jn : Int) - 1) (setI (setI s i (nthN s 0 jn)) jn (nthN s 0 i)) (by rw [hlen]; omega) (by omega) (by omega) (by omega)
      refine ⟨r, k1, by rw [k2, hlen], fun k hk => ?_⟩
      rw [k3 k (by omega), hlen, swap_at hi hj, swap_at hi hj]
      by_cases a1 : k = i
      · subst a1
        rw [if_neg (show ¬ (((k + 1 : Nat) : Int) ≤ (k : Int) ∧ (k : Int) ≤ (jn : Int) - 1) by omega), if_neg (show ¬ k = jn by omega), if_pos rfl, if_pos (show (k : Int) ≤ (k : Int) ∧ (k : Int) ≤ (jn : Int) by omega), show s.length - 1 - k = jn by omega]
      · by_cases a2 : k = jn
        · subst a2
          rw [if_neg (show ¬ (((i + 1 : Nat) : Int) ≤ (k : Int) ∧ (k : Int) ≤ (k : Int) - 1) by omega), if_pos rfl, if_pos (show (i : Int) ≤ (k : Int) ∧ (k : Int) ≤ (k : Int) by omega), show s.length - 1 - k = i by omega]
        · rw [if_neg (show ¬ s.length - 1 - k = jn by omega), if_neg (show ¬ s.length - 1 - k = i by omega), if_neg a2, if_neg a1]
          by_cases a3 : (i : Int) ≤ k ∧ (k : Int) ≤ jn
          · rw [if_pos a3, if_pos (by omega)]
          · rw [if_neg a3, if_neg (by omega)]
    · rw [bif_f (ltI_n c)]
      refine ⟨s, rfl, rfl, fun k hk => ?_⟩
      split
      · rw [show s.length - 1 - k = k by omega]
      · rfl

theorem reverse_eq (s : List Int) (h : s.length < 1000000000000) : lp22_32_1 fuelN 0 (subK .i64 (lenI s) 1) s = some (.inl ((), ((), (), ()), (s.reverse, ()))) := by
  have es : subK .i64 (lenI s) 1 = (s.length : Int) - 1 := by rw [lenI_eq, subK_eq (by omega) (by omega)]
  have hb := big_fuel (n := s.length + 1) (by omega)
  obtain ⟨r, h1, h2, h3⟩ := reverse_go fuelN 0 ((s.length : Int) - 1) s (by omega) (by omega) h (by omega)
  rw [es]
  refine h1.trans ?_
  have : r = s.reverse := by
    apply List.ext_getElem (by simp [h2])
    intro k a b
    have := h3 k (by omega)
    rw [if_pos (by omega)] at this
    simp only [List.getD] at this
    rw [List.getElem?_eq_getElem a, List.getElem?_eq_getElem (by omega)] at this
    simp only [Option.getD_some] at this
    rw [this, List.getElem_reverse]
  rw [this]

theorem lp22 {l : List Nd} (hl : l.length < 1000000000000) (hups : upsOk l l.length) : ∀ (n N : Nat) (b : Int) (s : List Int), b < n → n < N → b < l.length → -1 ≤ b → s.length + (b + 1) ≤ l.length →
    lp22_1 N l b s = some (.inl ((), (s ++ anc l b, ())))
  | n, 0, b, s, _, h2, _, _, _ => by omega
  | n, N + 1, b, s, h1, h2, h3, h4, h5 => by
    rw [lp22_1, st22_1, fn31_eq, obind_some]
    by_cases c : 0 ≤ b
    · obtain _ | n := n
      · omega
      have hu := hups b c h3
      rw [bif_t (by simp [c, h3]), bif_t (by simp only [fitI, catL, roomN, decide_eq_true_eq, List.length_append, List.length_singleton]; omega), bif_t (inI_t c h3), bif_f (leI_n (a := b) (b := (nd l b).up) (by omega)), bif_t (inI_t c h3)]
      have := lp22 hl hups n N (nd l b).up (catL s [b]) (by omega) (by omega) (by omega) (by omega) (by simp [catL]; omega)
      refine this.trans ?_
      rw [anc_cons hups c h3]
      simp [catL]
    · rw [bif_f (by simp [c]), anc_neg (by omega)]
      simp

theorem anc_len {l : List Nd} {i : Int} (hups : upsOk l i) : ∀ (n : Nat) (b : Int), b < n → b < i → -1 ≤ b → (anc l b).length ≤ b + 1
  | 0, b, h1, _, h3 => by rw [anc_neg (by omega)]; simp; omega
  | n + 1, b, h1, h2, h3 => by
    by_cases c : b < 0
    · rw [anc_neg c]; simp; omega
    · have hu := hups b (by omega) h2
      rw [anc_cons hups (by omega) h2]
      have := anc_len hups n _ (by omega) (by omega) hu.1
      simp only [List.length_cons]; omega

theorem fn22_eq {l : List Nd} (hl : l.length < 1000000000000) (hups : upsOk l l.length) (i : Int) : fn22 l i = some (if 0 ≤ i ∧ i < l.length then (anc l i).reverse else [], ()) := by
  rw [fn22]
  by_cases c : 0 ≤ i ∧ i < l.length
  · rw [lp22 hl hups l.length fuelN i [] (by omega) (big_fuel (by omega)) c.2 (by omega) (by simp; omega), obind_some, if_pos c]
    simp only [osum, List.nil_append]
    have := anc_len hups l.length i (by omega) c.2 (by omega)
    rw [reverse_eq _ (by omega), obind_some]
    all_goals rfl
  · have h0 : lp22_1 fuelN l i [] = some (.inl ((), ([], ()))) := by
      obtain ⟨n, hn⟩ : ∃ n, fuelN = n + 1 := ⟨fuelN - 1, by have := big_fuel (n := 1) (by omega); omega⟩
      rw [hn, lp22_1, st22_1, fn31_eq, obind_some, bif_f (by simp [c])]
    rw [h0, obind_some, if_neg c]
    simp only [osum]
    rw [reverse_eq _ (by simp), obind_some]
    all_goals rfl

def isAnc (l : List Nd) (i : Int) (k : Int) : Bool := decide (k ∈ anc l i)

theorem anc_filt {l : List Nd} {i : Int} (hups : upsOk l i) : ∀ (n : Nat) (b : Int), b < n → b < i → -1 ≤ b → (anc l b).reverse = filt (isAnc l b) (b + 1).toNat
  | 0, b, h1, _, h3 => by rw [anc_neg (by omega), show (b + 1).toNat = 0 by omega]; rfl
  | n + 1, b, h1, h2, h3 => by
    by_cases c : b < 0
    · rw [anc_neg c, show (b + 1).toNat = 0 by omega]; rfl
    · have hu := hups b (by omega) h2
      obtain ⟨bn, rfl⟩ : ∃ bn : Nat, b = bn := ⟨b.toNat, by omega⟩
      have hc := anc_cons hups (b := (bn : Int)) (by omega) h2
      rw [hc, List.reverse_cons, anc_filt hups n _ (by omega) (by omega) hu.1, show ((bn : Int) + 1).toNat = bn + 1 by omega]
      simp only [filt]
      rw [if_pos (by simp [isAnc, hc])]
      congr 1
      have hd := filt_none (p := isAnc l (bn : Int)) (k := ((nd l (bn : Int)).up + 1).toNat) (bn - ((nd l (bn : Int)).up + 1).toNat) fun j a b => by
        simp only [isAnc, hc, List.mem_cons, decide_eq_false_iff_not]
        rintro (h | h)
        · omega
        · have := anc_mem hups bn _ _ (by omega) (by omega) h
          omega
      rw [show ((nd l (bn : Int)).up + 1).toNat + (bn - ((nd l (bn : Int)).up + 1).toNat) = bn by omega] at hd
      rw [hd]
      refine filt_ext _ fun j hj => ?_
      simp only [isAnc, hc, List.mem_cons]
      have : (j : Int) ≠ (bn : Int) := by omega
      simp [this]

/-! ### End -/
/-- the end of what is below a node -/
def endOk (l : List Nd) (i e : Int) : Prop := i < e ∧ e ≤ l.length ∧ (∀ k, i < k → k < e → i ≤ (nd l k).up) ∧ (e < l.length → (nd l e).up < i)

theorem lp23 {l : List Nd} (hl : l.length < 1000000000000) (i : Int) : ∀ (n N : Nat) (k : Int), l.length - k < n → n < N → i < k → 0 ≤ k → k ≤ l.length → (∀ j, i < j → j < k → i ≤ (nd l j).up) →
    ∃ e, endOk l i e ∧ lp23_4 N l i k = some (.inl ((e, ()), ()))
  | 0, N, k, h1, _, _, _, h3, _ => by omega
  | n + 1, 0, k, _, h2, _, _, _, _ => by omega
  | n + 1, N + 1, k, h1, h2, h3, h0, h4, h5 => by
    rw [lp23_4, st23_4]
    by_cases c : k < l.length
    · rw [bif_t (ltI_t (b := lenI l) (by rw [lenI_eq]; exact c)), bif_t (inI_t (by omega) c)]
      by_cases c2 : i ≤ (nd l k).up
      · have ea : addK .i64 k 1 = k + 1 := addK_eq (by omega) (by omega)
        rw [bif_t (leI_t c2), ea]
        refine lp23 hl i n N (k + 1) (by omega) (by omega) (by omega) (by omega) (by omega) fun j a b => ?_
        by_cases e : j = k
        · subst e; exact c2
        · exact h5 j a (by omega)
      · rw [bif_f (leI_n c2)]
        exact ⟨k, ⟨h3, h4, h5, fun _ => by omega⟩, rfl⟩
    · rw [bif_f (ltI_n (b := lenI l) (by rw [lenI_eq]; exact c))]
      exact ⟨k, ⟨h3, h4, h5, fun h => absurd h c⟩, rfl⟩

theorem fn23_eq {l : List Nd} (hl : l.length < 1000000000000) {i : Int} (h0 : 0 ≤ i) (h1 : i < l.length) : ∃ e, endOk l i e ∧ fn23 l i = some (e, ()) := by
  have ea : addK .i64 i 1 = i + 1 := addK_eq (by omega) (by omega)
  obtain ⟨e, he, h2⟩ := lp23 hl i (l.length + 1) fuelN (i + 1) (by omega) (big_fuel (by omega)) (by omega) (by omega) (by omega) fun j a b => by omega
  exact ⟨e, he, by rw [fn23, fn31_eq, obind_some, bif_f (by simp [h0, h1]), ea, h2]; rfl⟩

theorem end_anc {l : List Nd} (hok : okTo l l.length) (hup : (nd l 0).up = -1) {i e : Int} (h0 : 0 ≤ i) (h1 : i < l.length) (he : endOk l i e) {k : Int} (hk0 : 0 ≤ k) (hk : k < l.length) : i ∈ anc l k ↔ i ≤ k ∧ k < e := by
  obtain ⟨e1, e2, e3, e4⟩ := he
  have hups := hok.ups hup
  constructor
  · intro h
    have := anc_mem hups l.length k i (by omega) hk h
    refine ⟨this.2, ?_⟩
    by_cases c : k < e
    · exact c
    · have h5 := anc_between hok hup l.length k i e (by omega) hk h (by omega) (by omega)
      rw [anc_cons hups (by omega) (by omega)] at h5
      rcases List.mem_cons.1 h5 with h6 | h6
      · omega
      · have := anc_mem hups l.length _ i (by have := hups e (by omega) (by omega); omega) (by have := hups e (by omega) (by omega); omega) h6
        have := e4 (by omega)
        omega
  · have main : ∀ (n : Nat) (k : Int), k < n → i ≤ k → k < e → i ∈ anc l k := by
      intro n
      induction n with
      | zero => intro k a b _; omega
      | succ n ih =>
        intro k a b c
        by_cases e' : k = i
        · subst e'; exact anc_self hups h0 h1
        · have h5 := e3 k (by omega) c
          have h6 := hups k (by omega) (by omega)
          rw [anc_cons hups (by omega) (by omega)]
          exact List.mem_cons_of_mem _ (ih _ (by omega) h5 (by omega))
    intro h
    exact main l.length k (by omega) h.1 h.2

/-! ### the law -/
theorem lp8 {l : List Nd} (hl : l.length < 1000000000000) (hok : okTo l l.length) (hup : (nd l 0).up = -1) {i : Nat} {e : Int} (h1 : i < l.length) (he : endOk l i e) :
    ∀ (N k : Nat), l.length - k < N → k ≤ l.length →
    lp8_13 N l i (filt (isKid l i) l.length) (filt (isAnc l i) (i + 1)) ((filt (isKid l i) k).length : Int) ((filt (isAnc l i) k).length : Int) (if (k : Int) ≤ i + 1 then (i : Int) + 1 else if (k : Int) ≤ e then (k : Int) else e) (k : Int) =
      some (.inl ((l, (i : Int), filt (isKid l i) l.length, filt (isAnc l i) (i + 1), ((filt (isKid l i) l.length).length : Int), ((filt (isAnc l i) (i + 1)).length : Int), e, ()), ()))
  | 0, k, h, _ => by omega
  | N + 1, k, h, hk => by
    have hups := hok.ups hup
    obtain ⟨e1, e2, e3, e4⟩ := id he
    have hnotanc : ∀ j : Nat, i + 1 ≤ j → isAnc l i (j : Int) = false := fun j hj => by
      simp only [isAnc, decide_eq_false_iff_not]
      intro hm
      have := anc_mem hups l.length _ _ (by omega) (by omega) hm
      omega
    have hfull : ∀ k : Nat, i + 1 ≤ k → filt (isAnc l i) k = filt (isAnc l i) (i + 1) := fun k hk => by
      rw [show k = (i + 1) + (k - (i + 1)) by omega]
      exact filt_none _ fun j a b => hnotanc j a
    rw [lp8_13, st8_13]
    by_cases ek : k = l.length
    · subst ek
      have hE : (if (l.length : Int) ≤ i + 1 then (i : Int) + 1 else if (l.length : Int) ≤ e then (l.length : Int) else e) = e := by
        split
        · omega
        · split <;> omega
      rw [bif_f (ltI_f (b := lenI l) (by rw [lenI_eq]; omega)), hfull l.length (by omega), hE]
    · have hin : inI l (k : Int) = true := inI_t (by omega) (by omega)
      have ek1 : addK .i64 (k : Int) 1 = ((k + 1 : Nat) : Int) := by rw [addK_eq (by omega) (by omega)]; rfl
      have hl1 := filt_len (isKid l i) k
      have hl2 := filt_len (isAnc l i) k
      have ea1 : addK .i64 ((filt (isKid l i) k).length : Int) 1 = (((filt (isKid l i) k).length + 1 : Nat) : Int) := by rw [addK_eq (by omega) (by omega)]; rfl
      have ea2 : addK .i64 ((filt (isAnc l i) k).length : Int) 1 = (((filt (isAnc l i) k).length + 1 : Nat) : Int) := by rw [addK_eq (by omega) (by omega)]; rfl
      have f1 := fn18_eq hups (Int.le_refl _) hl (k : Int) (i : Int) (by omega)
      have f2 := fn18_eq hups (Int.le_refl _) hl (i : Int) (k : Int) (by omega)
      have hea := end_anc hok hup (i := (i : Int)) (by omega) (by omega) he (k := (k : Int)) (by omega) (by omega)
      have ih := lp8 hl hok hup h1 he N (k + 1) (by omega) (by omega)
      have hend : ∀ b : Bool, b = decide ((i : Int) ∈ anc l (k : Int)) → (if b then ((k + 1 : Nat) : Int) else (if (k : Int) ≤ i + 1 then (i : Int) + 1 else if (k : Int) ≤ e then (k : Int) else e)) = (if ((k + 1 : Nat) : Int) ≤ i + 1 then (i : Int) + 1 else if ((k + 1 : Nat) : Int) ≤ e then ((k + 1 : Nat) : Int) else e) := fun b hb => by
        by_cases c : (i : Int) ∈ anc l (k : Int)
        · have := hea.1 c
          rw [hb, if_pos (by simpa using c)]
          repeat' split
          all_goals omega
        · have hc : ¬ ((i : Int) ≤ k ∧ (k : Int) < e) := fun h => c (hea.2 h)
          rw [hb, if_neg (by simpa using c)]
          repeat' split
          all_goals omega
      have hanc1 : isAnc l i (k : Int) = true → (filt (isAnc l i) k).length < (filt (isAnc l i) (i + 1)).length ∧ (filt (isAnc l i) (i + 1)).getD (filt (isAnc l i) k).length 0 = (k : Int) ∧ (filt (isAnc l i) (k + 1)).length = (filt (isAnc l i) k).length + 1 := fun hp => by
        have : k < i + 1 := by
          rcases Nat.lt_or_ge k (i + 1) with h | h
          · exact h
          · rw [hnotanc k h] at hp; cases hp
        exact filt_at this hp
      rw [bif_t (ltI_t (b := lenI l) (by rw [lenI_eq]; omega)), bif_t hin]
      by_cases c1 : (nd l (k : Int)).up = (i : Int)
      · obtain ⟨g1, g2, g3⟩ := filt_at (p := isKid l i) (k := k) (m := l.length) (by omega) (by simp [isKid, c1])
        rw [g3] at ih
        rw [bif_t (eqI_t c1), bif_f (leI_f (by rw [lenI_eq]; omega)), bif_t (inI_t (by omega) (by omega)), bif_f (by rw [eqI_t (by simp only [getI, Int.toNat_natCast]; exact g2)]; rfl), f1, obind_some, ea1, ek1]
        by_cases c2 : (k : Int) ∈ anc l (i : Int)
        · obtain ⟨q1, q2, q3⟩ := hanc1 (by simp [isAnc, c2])
          rw [q3] at ih
          rw [bif_t (by simp [c2]), bif_f (leI_f (by rw [lenI_eq]; omega)), bif_t (inI_t (by omega) (by omega)), bif_f (by rw [eqI_t (by simp only [getI, Int.toNat_natCast]; exact q2)]; rfl), f2, obind_some, ea2]
          by_cases c3 : (i : Int) ∈ anc l (k : Int)
          · rw [bif_t (by simp [c3])]
            rw [← hend true (by simp [c3]), if_pos rfl] at ih
            exact ih
          · rw [bif_f (by simp [c3])]
            rw [← hend false (by simp [c3]), if_neg (by simp)] at ih
            exact ih
        · rw [filt_no (p := isAnc l i) (k := k) (by simp [isAnc, c2])] at ih
          rw [bif_f (by simp [c2]), f2, obind_some]
          by_cases c3 : (i : Int) ∈ anc l (k : Int)
          · rw [bif_t (by simp [c3])]
            rw [← hend true (by simp [c3]), if_pos rfl] at ih
            exact ih
          · rw [bif_f (by simp [c3])]
            rw [← hend false (by simp [c3]), if_neg (by simp)] at ih
            exact ih
      · rw [filt_no (p := isKid l i) (k := k) (by simp [isKid, c1])] at ih
        rw [bif_f (eqI_f c1), f1, obind_some, ek1]
        by_cases c2 : (k : Int) ∈ anc l (i : Int)
        · obtain ⟨q1, q2, q3⟩ := hanc1 (by simp [isAnc, c2])
          rw [q3] at ih
          rw [bif_t (by simp [c2]), bif_f (leI_f (by rw [lenI_eq]; omega)), bif_t (inI_t (by omega) (by omega)), bif_f (by rw [eqI_t (by simp only [getI, Int.toNat_natCast]; exact q2)]; rfl), f2, obind_some, ea2]
          by_cases c3 : (i : Int) ∈ anc l (k : Int)
          · rw [bif_t (by simp [c3])]
            rw [← hend true (by simp [c3]), if_pos rfl] at ih
            exact ih
          · rw [bif_f (by simp [c3])]
            rw [← hend false (by simp [c3]), if_neg (by simp)] at ih
            exact ih
        · rw [filt_no (p := isAnc l i) (k := k) (by simp [isAnc, c2])] at ih
          rw [bif_f (by simp [c2]), f2, obind_some]
          by_cases c3 : (i : Int) ∈ anc l (k : Int)
          · rw [bif_t (by simp [c3])]
            rw [← hend true (by simp [c3]), if_pos rfl] at ih
            exact ih
          · rw [bif_f (by simp [c3])]
            rw [← hend false (by simp [c3]), if_neg (by simp)] at ih
            exact ih

theorem law8 (x0 : List Nd) (x1 : Int) (h0 : wfD (.list (.pair (.int .i64) (.pair (.int .i64) (.pair (.int .i64) (.pair (.int .i64) .unit))))) x0) (h1 : wfD (.int .i64) x1) : fn8 x0 x1 = some (true, ()) := by
  rw [fn8]
  rcases fn16_eq x0 with ⟨hl, hR, h2⟩ | h2
  · rw [h2, obind_some, bif_f (by rfl)]
    obtain ⟨hne, hup, hfr, _, hok⟩ := hR
    have hll : x0.length < 1000000000000 := by omega
    have hups := hok.ups hup
    rw [fn21_eq hll, obind_some, fn22_eq hll hups, obind_some]
    by_cases c : 0 ≤ x1 ∧ x1 < x0.length
    · rw [if_pos c, if_pos c]
      obtain ⟨i, rfl⟩ : ∃ i : Nat, x1 = i := ⟨x1.toNat, by omega⟩
      obtain ⟨e, he, h3⟩ := fn23_eq hll c.1 c.2
      have ea : addK .i64 (i : Int) 1 = (i : Int) + 1 := addK_eq (by omega) (by omega)
      have h4 := lp8 hll hok hup (by omega) he fuelN 0 (by have := big_fuel (n := x0.length) (by omega); omega) (by omega)
      rw [bif_f (ltI_f (by omega)), bif_f (leI_f (by rw [lenI_eq]; omega)), ea]
      have hr : (anc x0 (i : Int)).reverse = filt (isAnc x0 i) (i + 1) := by
        have := anc_filt hups x0.length (i : Int) (by omega) c.2 (by omega)
        rw [this, show ((i : Int) + 1).toNat = i + 1 by omega]
      simp only [hr]
      rw [show lp8_13 fuelN x0 (i : Int) (filt (isKid x0 i) x0.length) (filt (isAnc x0 i) (i + 1)) 0 0 ((i : Int) + 1) 0 = _ from h4, obind_some]
      simp only [osum]
      rw [bif_t (eqI_t (a := ((filt (isKid x0 i) x0.length).length : Int)) (b := lenI (filt (isKid x0 i) x0.length)) rfl), bif_t (eqI_t (a := ((filt (isAnc x0 i) (i + 1)).length : Int)) (b := lenI (filt (isAnc x0 i) (i + 1))) rfl), h3, obind_some, eqI_t rfl]
    · rw [if_neg c, if_neg c]
      have h3 : fn23 x0 x1 = some (0, ()) := by rw [fn23, fn31_eq, obind_some, bif_t (by simp [c])]
      have hz : eqI (lenI ([] : List Int)) 0 = true := rfl
      simp only
      by_cases c1 : x1 < 0
      · rw [bif_t (ltI_t c1), bif_t hz, bif_t hz, h3]; rfl
      · rw [bif_f (ltI_n c1), bif_t (leI_t (by rw [lenI_eq]; omega)), bif_t hz, bif_t hz, h3]; rfl
  · rw [h2]; rfl
end Go.Proofs.Ytfeklnaeolangaa
