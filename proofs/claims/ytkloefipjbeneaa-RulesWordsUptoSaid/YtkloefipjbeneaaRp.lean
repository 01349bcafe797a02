/-
  A row of words is one command just if there is a first one, which is neither reserved nor an assignment.
-/
import Derived.Test.YtkloefipjbeneaaRo
namespace Go.Proofs.Ytkloefipjbeneaa
open Go.RowKit
set_option linter.unusedVariables false
set_option linter.unusedSimpArgs false
set_option maxRecDepth 100000

/-! ### the words as leaves -/

def wl (s : List UInt8) : Lf := (6, (s, (0, (0, ()))))

theorem words_loop (x : List (List UInt8)) (hx : x.length ≤ 1048576) : ∀ (N k : Nat), x.length - k < N → k ≤ x.length →
    lp18_3 N x (k : Int) ((x.take k).map wl) = some (.inl ((), (x.map wl, ())))
  | 0, k, h, _ => by omega
  | N + 1, k, h, hk => by
    rw [lp18_3, st18_3]
    by_cases c : k < x.length
    · have hg : getI x [] (k : Int) = x[k] := by simp [getI, List.getD, c]
      have hc : catL ((x.take k).map wl) [((6 : Int), (getI x [] (k : Int), ((0 : Int), ((0 : Int), ()))))] = (x.take (k + 1)).map wl := by
        rw [hg, List.take_succ_eq_append_getElem c, List.map_append]; rfl
      rw [bif_t (ltI_t (by rw [lenI_eq]; omega)), bif_t (inI_t (by omega) (by omega)), hc, addK_eq (by omega) (by omega), show (k : Int) + 1 = ((k + 1 : Nat) : Int) by omega]
      have hf : fitI ((x.take (k + 1)).map wl) 40 = true := by
        simp only [fitI, roomN, List.length_map, List.length_take, decide_eq_true_eq]; omega
      refine (bif_t hf).trans ?_
      exact words_loop x hx N (k + 1) (by omega) (by omega)
    · rw [bif_f (ltI_n (by rw [lenI_eq]; omega)), List.take_of_length_le (by omega)]

theorem words_eq (x : List (List UInt8)) (hx : x.length ≤ 1048576) : fn18 x = some (x.map wl, ()) := by
  rw [fn18, show lp18_3 fuelN x 0 [] = _ from words_loop x hx fuelN 0 (big_fuel (by omega)) (by omega)]
  rfl

/-! ### the tree of one command -/

def S (n : Nat) : List Nd := match fn21 (n : Int) with
  | some (l, _) => l
  | none => []

theorem S_some : ∀ n : Fin 21, (fn21 ((n.val : Nat) : Int)).isSome = true := by decide +kernel
theorem S_eq (n : Fin 21) : fn21 ((n.val : Nat) : Int) = some (S n.val, ()) := by
  have h := S_some n
  unfold S
  cases hf : fn21 ((n.val : Nat) : Int) with
  | none => rw [hf] at h; cases h
  | some y => rfl
theorem S_len : ∀ n : Fin 21, (S n.val).length = n.val + 5 := by decide +kernel
theorem S_right : ∀ n : Fin 21, fn42 (S n.val) ((n.val : Nat) : Int) = some (true, ()) := by decide +kernel

/-- rows without leaves of their own -/
def tight (l : List Nd) : Int → List Int → Bool
  | _, [] => true
  | a, k :: ks => decide ((nd l k).fro ≤ a) && tight l (nd l k).too ks
theorem rowT_tight {l : List Nd} {lv : List Lf} : ∀ (ks : List Int) (a : Int), tight l a ks = true → rowT l lv a ks = ks.map fun k => ltr (nd l k).kind
  | [], a, _ => rfl
  | k :: ks, a, h => by
    simp only [tight, Bool.and_eq_true, decide_eq_true_eq] at h
    rw [rowT, seg_stop lv h.1, rowT_tight ks _ h.2]; rfl

def rowIs (n i : Nat) (r : List UInt8) : Bool :=
  tight (S n) (nd (S n) (i : Int)).fro (kidsOf (S n) i) && (decide ((nd (S n) (i : Int)).too ≤ atT (S n) (nd (S n) (i : Int)).fro (kidsOf (S n) i)) && decide (((kidsOf (S n) i).map fun k => ltr (nd (S n) k).kind) = r))
theorem rowIs_ok {n i : Nat} {r : List UInt8} (h : rowIs n i r = true) (lv : List Lf) : rowL (S n) lv i = r := by
  simp only [rowIs, Bool.and_eq_true, decide_eq_true_eq] at h
  unfold rowL
  rw [rowT_tight _ _ h.1, seg_stop lv h.2.1, List.append_nil, h.2.2]

theorem S_rows : ∀ n : Fin 21, n.val ≠ 0 → rowIs n.val 0 [76] = true ∧ rowIs n.val 1 [65] = true ∧ rowIs n.val 2 [73] = true ∧ rowIs n.val 3 [83] = true ∧ rowIs n.val 4 (List.replicate n.val 87) = true := by decide +kernel
theorem S_nodes : ∀ n : Fin 21, (nd (S n.val) 0).kind = 1 ∧ (nd (S n.val) 1).kind = 2 ∧ (nd (S n.val) 2).kind = 3 ∧ (nd (S n.val) 3).kind = 4 ∧ (nd (S n.val) 4).kind = 5 ∧ (nd (S n.val) 4).fro = 0 ∧ (nd (S n.val) 4).too = ((n.val : Nat) : Int) ∧
    (nd (S n.val) 1).fro = 0 ∧ (nd (S n.val) 1).too = ((n.val : Nat) : Int) ∧ (nd (S n.val) 2).fro = 0 ∧ (nd (S n.val) 2).too = ((n.val : Nat) : Int) ∧ (nd (S n.val) 3).fro = 0 ∧ (nd (S n.val) 3).too = ((n.val : Nat) : Int) := by decide +kernel
theorem S_words : ∀ n : Fin 21, ∀ j : Fin 21, j.val < n.val → (nd (S n.val) (((j.val + 5 : Nat)) : Int)).kind = 7 ∧ (nd (S n.val) (((j.val + 5 : Nat)) : Int)).fro = ((j.val : Nat) : Int) ∧ (nd (S n.val) (((j.val + 5 : Nat)) : Int)).too = ((j.val : Nat) : Int) + 1 ∧ kidsOf (S n.val) (j.val + 5) = [] := by decide +kernel
theorem S_first : ∀ n : Fin 21, n.val ≠ 0 → (kidsOf (S n.val) 4).head? = some 5 := by decide +kernel

/-! ### which nodes fit -/

section
variable {lv : List Lf} {l : List Nd} (hs : shortL lv) (hR : Rt l lv.length) (hl : l.length ≤ 60) {i : Nat} (hi : i < l.length)
include hs hR hl hi

theorem ft_word (h7 : (nd l (i : Int)).kind = 7) (hft : (nd l (i : Int)).fro < (nd l (i : Int)).too) : ft lv l i = wordB l lv i := by
  have h1 := (ft_eq hs hR hl hi).1
  have hp := word_prog hs hR hl hi (.inr h7) hft
  have h2 : fn36 lv l (i : Int) = some (wordB l lv i, ()) := by
    rw [fn36, bif_t (inI_t (by omega) (by omega)), bif_f (eqI_f (show (nd l (i : Int)).fro ≠ (nd l (i : Int)).too by omega)), bif_t (eqI_t h7)]
    exact hp
  rw [h1] at h2
  simpa using h2

theorem ft_empty (h1 : (nd l (i : Int)).kind ≠ 1) (hft : (nd l (i : Int)).fro = (nd l (i : Int)).too) : ft lv l i = false := by
  have h := (ft_eq hs hR hl hi).1
  rw [fn36, bif_t (inI_t (by omega) (by omega)), bif_t (eqI_t hft), bif_t (show (!eqI (nd l (i : Int)).kind 1) = true by rw [eqI_f h1]; rfl)] at h
  simpa using h.symm

theorem ft_form (h6 : (nd l (i : Int)).kind ≠ 6) (h7 : (nd l (i : Int)).kind ≠ 7) (hn : nests (nd l (i : Int)).kind = false) (hft : (nd l (i : Int)).fro < (nd l (i : Int)).too ∨ (nd l (i : Int)).kind = 1)
    {t : Bool} (ht : fn31 (nd l (i : Int)).kind (rowL l lv i) = some (t, ())) : ft lv l i = (t && besB l lv (i : Int) ((firstK l lv (kidsOf l i)).getD (0, ([], (0, (0, ()))))).2.1 true) := by
  have h1 := (ft_eq hs hR hl hi).1
  obtain ⟨d, hd, hbes⟩ := bes_prog hs hR hl hi hft
  obtain ⟨t', ht1, ht2⟩ := same_form (row_len hs hR hl hi) (nd l (i : Int)).kind
  obtain rfl : t' = t := by rw [ht2] at ht; simpa using ht
  have body : (obind (fn54 lv l (i : Int)) fun y0 => obind (fn53 (nd l (i : Int)).kind y0.1) fun y1 => bif y1.1 then obind (fn55 lv l (i : Int)) fun y2 => some (y2.1, ()) else some (false, ())) =
      some (t' && besB l lv (i : Int) ((firstK l lv (kidsOf l i)).getD (0, ([], (0, (0, ()))))).2.1 true, ()) := by
    rw [row_prog hs hR hl hi, obind_some, ht1, obind_some, hbes, hn]
    cases t' <;> rfl
  have h2 : fn36 lv l (i : Int) = some (t' && besB l lv (i : Int) ((firstK l lv (kidsOf l i)).getD (0, ([], (0, (0, ()))))).2.1 true, ()) := by
    rw [fn36, bif_t (inI_t (by omega) (by omega))]
    by_cases e : (nd l (i : Int)).fro = (nd l (i : Int)).too
    · rw [bif_t (eqI_t e), bif_f (show (!eqI (nd l (i : Int)).kind 1) = false by rw [eqI_t (show (nd l (i : Int)).kind = 1 by omega)]; rfl), bif_f (eqI_f h7), bif_f (eqI_f h6)]; exact body
    · rw [bif_f (eqI_f e), bif_f (eqI_f h7), bif_f (eqI_f h6)]; exact body
  rw [h1] at h2
  simpa using h2
end

theorem bad_neg (lv : List Lf) (l : List Nd) : ∀ (d k : Nat), (∀ j, k ≤ j → j < k + d → ft lv l j = true) → bad lv l d k = -1
  | 0, k, _ => rfl
  | d + 1, k, h => by
    rw [bad, h k (Nat.le_refl _) (by omega), if_pos rfl]
    exact bad_neg lv l d (k + 1) fun j a b => h j (by omega) (by omega)
theorem bad_pos (lv : List Lf) (l : List Nd) : ∀ (d k j : Nat), k ≤ j → j < k + d → ft lv l j = false → ¬ bad lv l d k < 0
  | 0, k, j, a, b, _ => by omega
  | d + 1, k, j, a, b, h => by
    rw [bad]
    cases hk : ft lv l k with
    | true =>
      rw [if_pos rfl]
      refine bad_pos lv l d (k + 1) j ?_ (by omega) h
      by_cases e : k = j
      · subst e; rw [h] at hk; cases hk
      · omega
    | false => rw [if_neg (by simp)]; omega

section
variable {lv : List Lf} {l : List Nd} (hs : shortL lv) (hR : Rt l lv.length) (hl : l.length ≤ 60)
include hs hR hl

theorem right_is (h1 : (nd l 0).kind = 1) : fn13 lv l = some (ltI (bad lv l l.length 0) 0, ()) := by
  have hne : 0 < l.length := List.length_pos_iff.2 hR.1
  rcases fn11_eq (l := l) (by omega) (lenI lv) with ⟨_, h11⟩ | ⟨h, _⟩
  rotate_left
  · exact absurd hR h
  rw [fn13, fn29, bif_t (leI_t (by omega)), bif_t (ltI_t (by rw [lenI_eq]; omega)), h11, first_is hs hR hl]
  simp only [obind_some, cond_true]
  rw [bif_t (inI_t (by omega) (by omega)), bif_t (eqI_t h1)]
end

theorem form_of {k : Int} {row : List UInt8} (hr : row.length < 100000) (h : ∃ t, fn31 k row = some (t, ()) ∧ (t = true ↔ kindL k row)) (hk : kindL k row) : fn31 k row = some (true, ()) := by
  obtain ⟨t, h1, h2⟩ := h
  rw [h2.2 hk] at h1; exact h1

theorem many_all (S : List UInt8) (s : List UInt8) (h : ∀ c ∈ s, c ∈ S) : Many S Nil s := ⟨s, [], by simp, h, rfl⟩

theorem one_command {x : List (List UInt8)} (hn : x.length ≤ 20) (hs : shortL (x.map wl)) : fn13 (x.map wl) (S x.length) = some (if x.length = 0 then false else (!resW.contains (getI x [] 0) && !asg (getI x [] 0)), ()) := by
  have hlen : (S x.length).length = x.length + 5 := S_len ⟨x.length, by omega⟩
  have hR : Rt (S x.length) (((x.map wl).length : Nat) : Int) := by
    rw [List.length_map]
    rcases fn11_eq (l := S x.length) (by omega) (x.length : Int) with ⟨h, _⟩ | ⟨_, h⟩
    · exact h
    · have := S_right ⟨x.length, by omega⟩
      simp only at this
      rw [h] at this; cases this
  have hl : (S x.length).length ≤ 60 := by omega
  have hnd := S_nodes ⟨x.length, by omega⟩
  simp only at hnd
  obtain ⟨k0, k1, k2, k3, k4, f4, t4, f1, t1, f2, t2, f3, t3⟩ := hnd
  rw [right_is hs hR hl k0]
  congr 2
  by_cases h0 : x.length = 0
  · rw [if_pos h0]
    have := ft_empty hs hR hl (i := 1) (by omega) (by rw [show ((1 : Nat) : Int) = 1 from rfl, k1]; decide) (by rw [show ((1 : Nat) : Int) = 1 from rfl, f1, t1, h0]; rfl)
    exact ltI_n (bad_pos _ _ _ 0 1 (by omega) (by omega) this)
  rw [if_neg h0]
  have hrows := S_rows ⟨x.length, by omega⟩ h0
  simp only at hrows
  obtain ⟨r0, r1, r2, r3, r4⟩ := hrows
  have hpos : 0 < x.length := by omega
  have c0 : ft (x.map wl) (S x.length) 0 = true := by
    rw [ft_form hs hR hl (i := 0) (by omega) (by rw [show ((0 : Nat) : Int) = 0 from rfl, k0]; decide) (by rw [show ((0 : Nat) : Int) = 0 from rfl, k0]; decide) (by rw [show ((0 : Nat) : Int) = 0 from rfl, k0]; decide) (.inr k0) (t := true) (by
      rw [rowIs_ok r0, show ((0 : Nat) : Int) = 0 from rfl, k0]
      refine form_of (by simp) (form1 (by simp)) ?_
      rw [kind1]
      exact many_cons.2 (.inl (.inr (one_cons.2 ⟨by decide, rfl⟩))))]
    unfold besB
    simp only [show ((0 : Nat) : Int) = 0 from rfl, k0]
    rfl
  have mid : ∀ (i : Nat) (k : Int) (r : List UInt8), i < 4 → 0 < i → (nd (S x.length) (i : Int)).kind = k → (nd (S x.length) (i : Int)).fro = 0 → (nd (S x.length) (i : Int)).too = (x.length : Int) → rowIs x.length i r = true → k = 2 ∨ k = 3 ∨ k = 4 → fn31 k r = some (true, ()) →
      ft (x.map wl) (S x.length) i = true := by
    intro i k r hi hi0 hk hf ht hr hkk hform
    rw [ft_form hs hR hl (i := i) (by omega) (by rw [hk]; omega) (by rw [hk]; omega) (by rw [hk]; rcases hkk with h | h | h <;> rw [h] <;> decide) (.inl (by rw [hf, ht]; omega)) (t := true) (by rw [rowIs_ok hr, hk]; exact hform)]
    unfold besB
    simp only [hk]
    rw [if_neg (by omega), if_neg (by omega), if_neg (by omega), if_neg (by omega)]
    rfl
  have c1 := mid 1 2 [65] (by omega) (by omega) k1 f1 t1 r1 (.inl rfl) (form_of (by simp) (form2 (by simp)) (by rw [kind2]; exact one_cons.2 ⟨by decide, 0, .inl rfl⟩))
  have c2 := mid 2 3 [73] (by omega) (by omega) k2 f2 t2 r2 (.inr (.inl rfl)) (form_of (by simp) (form3 (by simp)) (by rw [kind3]; exact one_cons.2 ⟨by decide, 0, rfl⟩))
  have c3 := mid 3 4 [83] (by omega) (by omega) k3 f3 t3 r3 (.inr (.inr rfl)) (form_of (by simp) (form4 (by simp)) (by rw [kind4]; exact .inl (one_cons.2 ⟨by decide, 0, rfl⟩)))
  have hw0 : lf (x.map wl) 0 = wl (getI x [] 0) := by
    unfold lf getI
    rw [List.getD_eq_getElem?_getD, List.getD_eq_getElem?_getD, List.getElem?_map, show (0 : Int).toNat = 0 from rfl, List.getElem?_eq_getElem hpos]
    rfl
  have c4 : ft (x.map wl) (S x.length) 4 = (!resW.contains (getI x [] 0) && !asg (getI x [] 0)) := by
    rw [ft_form hs hR hl (i := 4) (by omega) (by rw [show ((4 : Nat) : Int) = 4 from rfl, k4]; decide) (by rw [show ((4 : Nat) : Int) = 4 from rfl, k4]; decide) (by rw [show ((4 : Nat) : Int) = 4 from rfl, k4]; decide) (.inl (by rw [show ((4 : Nat) : Int) = 4 from rfl, f4, t4]; omega)) (t := true) (by
      rw [rowIs_ok r4, show ((4 : Nat) : Int) = 4 from rfl, k4]
      refine form_of (by rw [List.length_replicate]; omega) (form5 (by rw [List.length_replicate]; omega)) ?_
      rw [kind5]
      obtain ⟨m, hm⟩ : ∃ m, x.length = m + 1 := ⟨x.length - 1, by omega⟩
      rw [hm, List.replicate_succ]
      exact ⟨by simp, many_cons.2 (.inl (.inr (one_cons.2 ⟨by decide, many_all _ _ fun c hc => by rw [List.eq_of_mem_replicate hc]; decide⟩)))⟩)]
    have hfirst := S_first ⟨x.length, by omega⟩ h0
    simp only at hfirst
    obtain ⟨ks, hks⟩ : ∃ ks, kidsOf (S x.length) 4 = 5 :: ks := by
      cases hk : kidsOf (S x.length) 4 with
      | nil => rw [hk] at hfirst; cases hfirst
      | cons a ks =>
        rw [hk] at hfirst
        simp only [List.head?_cons, Option.some.injEq] at hfirst
        exact ⟨ks, by rw [hfirst]⟩
    have hw := S_words ⟨x.length, by omega⟩ ⟨0, by omega⟩ hpos
    simp only at hw
    obtain ⟨w1, w2, w3, _⟩ := hw
    have hfk : firstK (S x.length) (x.map wl) (kidsOf (S x.length) 4) = some (wl (getI x [] 0)) := by
      rw [hks, firstK, if_pos]
      · rw [show (nd (S x.length) 5).fro = 0 from w2, hw0]
      · simp only [isW, decide_eq_true_eq]
        refine ⟨w1, ?_⟩
        rw [show (nd (S x.length) 5).fro = 0 from w2, show (nd (S x.length) 5).too = 0 + 1 from w3]
        omega
    rw [hfk]
    unfold besB
    simp only [show ((4 : Nat) : Int) = 4 from rfl, k4, f4, t4, hw0, Option.getD_some]
    rw [if_pos trivial, show eqI (wl (getI x [] 0)).1 6 = true from rfl, eqI_t (show (x.length : Int) = ((x.map wl).length : Int) by rw [List.length_map])]
    simp [wl]
  have cw : ∀ j, j < x.length → ft (x.map wl) (S x.length) (j + 5) = true := by
    intro j hj
    have hw := S_words ⟨x.length, by omega⟩ ⟨j, by omega⟩ hj
    simp only at hw
    obtain ⟨w1, w2, w3, w4⟩ := hw
    rw [ft_word hs hR hl (i := j + 5) (by omega) w1 (by rw [w2, w3]; omega)]
    unfold wordB
    rw [w1, w2, w3, w4]
    have hwj : lf (x.map wl) (j : Int) = wl x[j] := by
      unfold lf getI
      rw [List.getD_eq_getElem?_getD, List.getElem?_map, Int.toNat_natCast, List.getElem?_eq_getElem hj]
      rfl
    rw [hwj, eqI_t rfl, show eqI (wl x[j]).1 6 = true from rfl]
    rfl
  cases hv : (!resW.contains (getI x [] 0) && !asg (getI x [] 0)) with
  | true =>
    rw [hv] at c4
    refine ltI_t ?_
    rw [bad_neg _ _ _ 0 fun j _ hj => ?_]
    · omega
    · rw [hlen] at hj
      match j, hj with
      | 0, _ => exact c0
      | 1, _ => exact c1
      | 2, _ => exact c2
      | 3, _ => exact c3
      | 4, _ => exact c4
      | j + 5, hj => exact cw j (by omega)
  | false =>
    rw [hv] at c4
    exact ltI_n (bad_pos _ _ _ 0 4 (by omega) (by omega) c4)

theorem law5 (x0 : List (List UInt8)) (h0 : wfD (.list .str) x0) (b0 : x0.length ≤ 1048576) : fn5 x0 = some (true, ()) := by
  rw [fn5, words_eq x0 b0, obind_some]
  simp only
  rcases short_eq (x0.map wl) 20 (by omega) with ⟨h, hn, hs⟩ | h
  rotate_left
  · rw [show fn12 (x0.map wl) 20 = _ from h]; rfl
  rw [List.length_map] at hn
  have hS : fn21 (lenI x0) = some (S x0.length, ()) := S_eq ⟨x0.length, by omega⟩
  rw [show fn12 (x0.map wl) 20 = _ from h, obind_some]
  simp only [Bool.not_true, cond_false]
  have hone := one_command hn hs
  by_cases c : x0.length = 0
  · rw [bif_f (ltI_n (by rw [lenI_eq]; omega)), hS, obind_some, hone, obind_some, if_pos c]
    rfl
  · have hg : (getI x0 [] 0).length ≤ 60 := by
      have := hs.2 (wl (getI x0 [] 0)) (List.mem_map.2 ⟨getI x0 [] 0, by
        unfold getI
        rw [List.getD_eq_getElem?_getD, show (0 : Int).toNat = 0 from rfl, List.getElem?_eq_getElem (by omega)]
        exact List.getElem_mem _, rfl⟩)
      exact this
    obtain ⟨n, a1, a2, a3⟩ := assign_ref (s := getI x0 [] 0) (by omega)
    have hin : inI x0 0 = true := inI_t (by omega) (by omega)
    rw [bif_t (ltI_t (by rw [lenI_eq]; omega)), bif_t hin, res_ref hg, obind_some]
    rw [if_neg c] at hone
    cases hr : resW.contains (getI x0 [] 0) with
    | true =>
      rw [hr] at hone
      simp only [Bool.not_true, cond_false]
      rw [hS, obind_some, hone, obind_some]
      rfl
    | false =>
      rw [hr] at hone
      simp only [Bool.not_false, cond_true]
      rw [bif_t hin, a1, obind_some, hS, obind_some, hone, obind_some]
      simp only
      rw [a3]
      cases asg (getI x0 [] 0) <;> rfl
end Go.Proofs.Ytkloefipjbeneaa
