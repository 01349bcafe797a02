/-
  Which rows of nodes are derivations of any leaves, and the first node that doesn't fit, are as the document says; which nodes fit, by their rows alone, too.
-/
import Derived.Test.YtkloefipjbeneaaRm
namespace Go.Proofs.Ytkloefipjbeneaa
open Go.RowKit
set_option linter.unusedVariables false
set_option linter.unusedSimpArgs false
set_option maxRecDepth 100000

/-! ### few leaves, and short -/

theorem short_loop {lv : List Lf} (hl : lv.length < 1000000) : ∀ (N k : Nat), lv.length - k < N → k ≤ lv.length →
    (lp12_4 N lv (k : Int) = some (.inl ((), ())) ∧ ∀ x ∈ lv.drop k, x.2.1.length ≤ 60) ∨ lp12_4 N lv (k : Int) = some (.inr ((false, ()), ()))
  | 0, k, h, _ => by omega
  | N + 1, k, h, hk => by
    rw [lp12_4, st12_4]
    by_cases c : k < lv.length
    · have hg : getI lv (0, ([], (0, (0, ())))) (k : Int) = lv[k] := by simp [getI, List.getD, c]
      rw [bif_t (ltI_t (by rw [lenI_eq]; omega)), bif_t (inI_t (by omega) (by omega)), hg, addK_eq (by omega) (by omega), show (k : Int) + 1 = ((k + 1 : Nat) : Int) by omega]
      by_cases d : lv[k].2.1.length ≤ 60
      · rw [bif_f (ltI_n (by rw [lenI_eq]; omega))]
        rcases short_loop hl N (k + 1) (by omega) (by omega) with ⟨h1, h2⟩ | h1
        · refine .inl ⟨h1, fun x hx => ?_⟩
          rw [List.drop_eq_getElem_cons c] at hx
          rcases List.mem_cons.1 hx with rfl | hx
          · exact d
          · exact h2 x hx
        · exact .inr h1
      · rw [bif_t (ltI_t (by rw [lenI_eq]; omega))]
        exact .inr rfl
    · rw [bif_f (ltI_n (by rw [lenI_eq]; omega))]
      refine .inl ⟨rfl, fun x hx => ?_⟩
      rw [List.drop_eq_nil_of_le (by omega)] at hx
      cases hx

theorem short_eq (lv : List Lf) (m : Nat) (hm : m ≤ 40) : (fn12 lv (m : Int) = some (true, ()) ∧ lv.length ≤ m ∧ shortL lv) ∨ fn12 lv (m : Int) = some (false, ()) := by
  rw [fn12]
  by_cases c : lv.length ≤ m
  · rw [bif_f (ltI_n (by rw [lenI_eq]; omega))]
    rcases short_loop (lv := lv) (by omega) fuelN 0 (big_fuel (by omega)) (by omega) with ⟨h1, h2⟩ | h1
    · rw [show lp12_4 fuelN lv 0 = _ from h1]
      exact .inl ⟨rfl, c, by omega, by simpa using h2⟩
    · rw [show lp12_4 fuelN lv 0 = _ from h1]
      exact .inr rfl
  · rw [bif_t (ltI_t (by rw [lenI_eq]; omega))]
    exact .inr rfl

/-! ### the first node that doesn't fit -/

def ft (lv : List Lf) (l : List Nd) (i : Nat) : Bool := match fn16 lv l (i : Int) with
  | some (b, _) => b
  | none => false

/-- the first that doesn't fit, from a place on; -1: none -/
def bad (lv : List Lf) (l : List Nd) : Nat → Nat → Int
  | 0, _ => -1
  | d + 1, k => if ft lv l k then bad lv l d (k + 1) else (k : Int)

theorem bad_at (lv : List Lf) (l : List Nd) : ∀ (d k : Nat), bad lv l d k = -1 ∨ (k : Int) ≤ bad lv l d k
  | 0, k => .inl rfl
  | d + 1, k => by
    rw [bad]
    split
    · rcases bad_at lv l d (k + 1) with h | h
      · exact .inl h
      · exact .inr (by omega)
    · exact .inr (by omega)

section
variable {lv : List Lf} {l : List Nd} (hs : shortL lv) (hR : Rt l lv.length) (hl : l.length ≤ 60)
include hs hR hl

theorem ft_eq {i : Nat} (hi : i < l.length) : fn36 lv l (i : Int) = some (ft lv l i, ()) ∧ fn16 lv l (i : Int) = some (ft lv l i, ()) := by
  obtain ⟨b, h1, h2⟩ := fits_same hs hR hl hi
  have : ft lv l i = b := by unfold ft; rw [h2]
  rw [this]
  exact ⟨h1, h2⟩

theorem first_loop : ∀ (d N k : Nat), k + d = l.length → d < N → lp17_5 N lv l (-1) (lenI l) (k : Int) = some (.inl ((bad lv l d k, ()), ()))
  | d, 0, k, _, h => by omega
  | 0, N + 1, k, hk, h => by
    rw [lp17_5, st17_5, bif_f (ltI_n (by rw [lenI_eq]; omega))]; rfl
  | d + 1, N + 1, k, hk, h => by
    rw [lp17_5, st17_5, bif_t (ltI_t (by rw [lenI_eq]; omega)), (ft_eq hs hR hl (by omega)).1, obind_some, addK_eq (by omega) (by omega), show (k : Int) + 1 = ((k + 1 : Nat) : Int) by omega, bad]
    simp only
    cases hf : ft lv l k with
    | true =>
      simp only [Bool.not_true, cond_false, if_true]
      exact first_loop d N (k + 1) (by omega) (by omega)
    | false => rfl

theorem all_loop : ∀ (d N k : Nat), k + d = l.length → d < N → lp14_4 N lv l (k : Int) = some (if bad lv l d k < 0 then .inl ((), ()) else .inr ((false, ()), ()))
  | d, 0, k, _, h => by omega
  | 0, N + 1, k, hk, h => by
    rw [lp14_4, st14_4, bif_f (ltI_n (by rw [lenI_eq]; omega)), if_pos (by rw [bad]; omega)]
  | d + 1, N + 1, k, hk, h => by
    rw [lp14_4, st14_4, bif_t (ltI_t (by rw [lenI_eq]; omega)), (ft_eq hs hR hl (by omega)).2, obind_some, addK_eq (by omega) (by omega), show (k : Int) + 1 = ((k + 1 : Nat) : Int) by omega, bad]
    simp only
    cases hf : ft lv l k with
    | true =>
      simp only [Bool.not_true, cond_false, if_true]
      exact all_loop d N (k + 1) (by omega) (by omega)
    | false =>
      simp only [Bool.not_false, cond_true]
      rw [if_neg (by simp)]

theorem back_loop : ∀ (k N : Nat), k ≤ l.length → k < N → lp4_11 N lv l (bad lv l (l.length - k) k) ((k : Int) - 1) = some (.inl ((lv, l, bad lv l l.length 0, ()), ()))
  | k, 0, _, h => by omega
  | 0, N + 1, _, h => by
    rw [lp4_11, st4_11, bif_f (leI_n (by omega))]; rfl
  | k + 1, N + 1, hk, h => by
    rw [lp4_11, st4_11, bif_t (leI_t (by omega)), show ((k + 1 : Nat) : Int) - 1 = (k : Int) by omega, (ft_eq hs hR hl (by omega)).2, obind_some, subK_eq (by omega) (by omega)]
    have ih := back_loop k N (by omega) (by omega)
    rw [show l.length - k = (l.length - (k + 1)) + 1 by omega, bad] at ih
    simp only
    cases hf : ft lv l k with
    | true =>
      rw [hf, if_pos rfl] at ih
      exact ih
    | false =>
      rw [hf, if_neg (by simp)] at ih
      exact ih

theorem first_is : fn17 lv l = some (bad lv l l.length 0, ()) := by
  have hne : 0 < l.length := List.length_pos_iff.2 hR.1
  have h11 := fn11_eq (l := l) (by omega) (lenI lv)
  rcases h11 with ⟨_, h11⟩ | ⟨h, _⟩
  rotate_left
  · exact absurd hR h
  rw [fn17, fn29, bif_t (leI_t (by omega)), bif_t (ltI_t (by rw [lenI_eq]; omega)), h11, obind_some, obind_some]
  simp only [Bool.not_true, cond_false]
  rw [show lp17_5 fuelN lv l (-1) (lenI l) 0 = _ from first_loop hs hR hl l.length fuelN 0 (by omega) (big_fuel (by omega))]
  rfl

theorem right_same : ∃ b, fn13 lv l = some (b, ()) ∧ fn14 lv l = some (b, ()) := by
  have hne : 0 < l.length := List.length_pos_iff.2 hR.1
  have h11 := fn11_eq (l := l) (by omega) (lenI lv)
  have h12 := fn12_eq (l := l) (by omega) (lenI lv)
  rcases h11 with ⟨_, h11⟩ | ⟨h, _⟩
  rotate_left
  · exact absurd hR h
  rcases h12 with ⟨_, h12⟩ | ⟨h, _⟩
  rotate_left
  · exact absurd hR h
  rw [fn13, fn29, bif_t (leI_t (by omega)), bif_t (ltI_t (by rw [lenI_eq]; omega)), h11, fn14, h12, first_is hs hR hl]
  simp only [obind_some, cond_true, Bool.not_true, cond_false]
  rw [bif_t (inI_t (by omega) (by omega)), bif_t (inI_t (by omega) (by omega))]
  by_cases c : (nd l 0).kind = 1
  · refine ⟨ltI (bad lv l l.length 0) 0, ?_, ?_⟩
    · rw [bif_t (eqI_t c)]
    · rw [bif_f (show (!eqI (nd l 0).kind 1) = false by rw [eqI_t c]; rfl), show lp14_4 fuelN lv l 0 = _ from all_loop hs hR hl l.length fuelN 0 (by omega) (big_fuel (by omega)), obind_some]
      by_cases d : bad lv l l.length 0 < 0
      · rw [if_pos d, ltI_t d]; rfl
      · rw [if_neg d, ltI_n d]; rfl
  · refine ⟨false, ?_, ?_⟩
    · rw [bif_f (eqI_f c)]
    · rw [bif_t (show (!eqI (nd l 0).kind 1) = true by rw [eqI_f c]; rfl)]
end

theorem law4 (x0 : List Lf) (x1 : List Nd) (h0 : wfD (.list (.pair (.int .i64) (.pair .str (.pair (.int .i64) (.pair (.int .i64) .unit))))) x0) (h1 : wfD (.list (.pair (.int .i64) (.pair (.int .i64) (.pair (.int .i64) (.pair (.int .i64) .unit))))) x1) : fn4 x0 x1 = some (true, ()) := by
  rw [fn4]
  rcases short_eq x0 40 (by omega) with ⟨h, _, hs⟩ | h
  rotate_left
  · rw [show fn12 x0 40 = _ from h]; rfl
  rw [show fn12 x0 40 = _ from h, obind_some]
  simp only [Bool.not_true, cond_false]
  by_cases c : x1.length ≤ 60
  rotate_left
  · rw [bif_t (ltI_t (by rw [lenI_eq]; omega))]
  rw [bif_f (ltI_n (by rw [lenI_eq]; omega))]
  rcases fn12_eq (l := x1) (by omega) (lenI x0) with ⟨hR, h12⟩ | ⟨hR, h12⟩
  · obtain ⟨b, e1, e2⟩ := right_same hs hR c
    rw [e1, obind_some, e2, obind_some, h12, obind_some]
    simp only
    rw [show eqB b b = true by cases b <;> rfl]
    simp only [Bool.not_true, cond_false]
    have e := back_loop hs hR c x1.length fuelN (by omega) (big_fuel (by omega))
    rw [Nat.sub_self] at e
    rw [subK_eq (by rw [lenI_eq]; omega) (by rw [lenI_eq]; omega), show lp4_11 fuelN x0 x1 (-1) (lenI x1 - 1) = _ from e, obind_some]
    unfold osum
    simp only
    rw [first_is hs hR c, obind_some]
    simp only
    rw [eqI_t rfl]
  · have e1 : fn13 x0 x1 = some (false, ()) := by
      rw [fn13, fn29, bif_t (leI_t (by omega))]
      by_cases d : 0 < x1.length
      · rw [bif_t (ltI_t (by rw [lenI_eq]; omega))]
        rcases fn11_eq (l := x1) (by omega) (lenI x0) with ⟨hR', _⟩ | ⟨_, h11⟩
        · exact absurd hR' hR
        · rw [h11]; rfl
      · rw [bif_f (ltI_n (by rw [lenI_eq]; omega))]; rfl
    have e2 : fn14 x0 x1 = some (false, ()) := by rw [fn14, h12]; rfl
    rw [e1, obind_some, e2, obind_some, h12, obind_some]
    rfl

/-! ### RulesForms -/

/-- nodes of one leaf each below node 1, one behind the other -/
def oneEach (c : Int) (ns : List Nd) : Prop := (∀ x ∈ ns, 1 ≤ x.kind ∧ x.kind ≤ 18 ∧ 0 ≤ x.fro ∧ x.too = x.fro + 1 ∧ x.too ≤ c ∧ x.up = 1) ∧ ns.Pairwise fun x y => x.too ≤ y.fro

theorem forms_loop (lv : List Lf) (ks : List Int) (hk : ks.length ≤ 24) (a b : Nd) : ∀ (N j : Nat) (ns : List Nd), ks.length - j < N → j ≤ ks.length → ns.length ≤ j → oneEach (j : Int) ns →
    ∃ ms : List Nd, lp8_7 N lv ks (j : Int) (a :: b :: ns) = some (.inl ((lv, ()), (a :: b :: ms, ()))) ∧ ms.length ≤ 24 ∧ oneEach (ks.length : Int) ms
  | 0, j, ns, h, _, _, _ => by omega
  | N + 1, j, ns, h, hj, hn, ho => by
    rw [lp8_7, st8_7]
    by_cases c : j < ks.length
    · have hg : getI ks 0 (j : Int) = ks[j] := by simp [getI, List.getD, c]
      have hin : inI ks (j : Int) = true := inI_t (by omega) (by omega)
      have ea : addK .i64 (j : Int) 1 = ((j + 1 : Nat) : Int) := by rw [addK_eq (by omega) (by omega)]; rfl
      have up1 : oneEach ((j + 1 : Nat) : Int) ns := ⟨fun x hx => by have := ho.1 x hx; exact ⟨this.1, this.2.1, this.2.2.1, this.2.2.2.1, by omega, this.2.2.2.2.2⟩, ho.2⟩
      rw [bif_t (ltI_t (by rw [lenI_eq]; omega)), hin, hg, ea]
      simp only [cond_true]
      by_cases d1 : 1 ≤ ks[j]
      · rw [bif_t (leI_t d1)]
        by_cases d2 : ks[j] ≤ 18
        · rw [bif_t (leI_t d2)]
          have hfit : fitI (catL (a :: b :: ns) [(ks[j], ((j : Int), (((j + 1 : Nat) : Int), (1, ()))))]) 32 = true := by
            simp only [fitI, catL, roomN, List.length_append, List.length_cons, List.length_nil, decide_eq_true_eq]; omega
          rw [show (bif fitI (catL (a :: b :: ns) [(ks[j], ((j : Int), (((j + 1 : Nat) : Int), (1, ()))))]) 32 then lp8_7 N lv ks ((j + 1 : Nat) : Int) (catL (a :: b :: ns) [(ks[j], ((j : Int), (((j + 1 : Nat) : Int), (1, ()))))]) else none) = _ from bif_t hfit]
          refine forms_loop lv ks hk a b N (j + 1) (ns ++ [(ks[j], ((j : Int), (((j + 1 : Nat) : Int), (1, ()))))]) (by omega) (by omega) (by simp; omega) ⟨fun x hx => ?_, ?_⟩
          · rcases List.mem_append.1 hx with hx | hx
            · exact up1.1 x hx
            · rw [List.mem_singleton] at hx
              subst hx
              exact ⟨d1, d2, by show (0 : Int) ≤ (j : Int); omega, by show ((j + 1 : Nat) : Int) = (j : Int) + 1; omega, by show ((j + 1 : Nat) : Int) ≤ _; omega, rfl⟩
          · rw [List.pairwise_append]
            refine ⟨ho.2, List.pairwise_singleton _ _, fun x hx y hy => ?_⟩
            rw [List.mem_singleton] at hy
            subst hy
            exact (ho.1 x hx).2.2.2.2.1
        · rw [bif_f (leI_n d2)]
          exact forms_loop lv ks hk a b N (j + 1) ns (by omega) (by omega) (by omega) up1
      · rw [bif_f (leI_n d1)]
        exact forms_loop lv ks hk a b N (j + 1) ns (by omega) (by omega) (by omega) up1
    · rw [bif_f (ltI_n (by rw [lenI_eq]; omega))]
      obtain rfl : j = ks.length := by omega
      exact ⟨ns, rfl, by omega, ho⟩

theorem forms_right {k : Int} (h1 : 1 ≤ k) (h2 : k ≤ 18) (n : Nat) {ms : List Nd} {c : Int} (hc : c ≤ n) (ho : oneEach c ms) : Rt ((1, (0, ((n : Int), ((-1), ())))) :: (k, (0, ((n : Int), (0, ())))) :: ms) (n : Int) := by
  have e0 : nd ((1, (0, ((n : Int), ((-1), ())))) :: (k, (0, ((n : Int), (0, ())))) :: ms) 0 = (1, (0, ((n : Int), ((-1), ())))) := rfl
  have e1 : nd ((1, (0, ((n : Int), ((-1), ())))) :: (k, (0, ((n : Int), (0, ())))) :: ms) 1 = (k, (0, ((n : Int), (0, ())))) := rfl
  generalize hL : ((1, (0, ((n : Int), ((-1), ())))) :: (k, (0, ((n : Int), (0, ())))) :: ms : List Nd) = L at e0 e1
  have hlen : L.length = ms.length + 2 := by rw [← hL]; rfl
  have e2 : ∀ (j : Nat) (h : j < ms.length), nd L ((j + 2 : Nat) : Int) = ms[j] := fun j h => by
    rw [← hL]
    unfold nd getI
    rw [Int.toNat_natCast, List.getD_eq_getElem?_getD]
    simp [h]
  have hup : ∀ j : Nat, j < L.length → (nd L (j : Int)).up = if j = 0 then -1 else if j = 1 then 0 else 1 := fun j hj => by
    by_cases c0 : j = 0
    · subst c0; rw [if_pos rfl, show ((0 : Nat) : Int) = 0 from rfl, e0]
    by_cases c1 : j = 1
    · subst c1; rw [if_neg c0, if_pos rfl, show ((1 : Nat) : Int) = 1 from rfl, e1]
    rw [if_neg c0, if_neg c1]
    have := e2 (j - 2) (by omega)
    rw [show j - 2 + 2 = j by omega] at this
    rw [this]
    exact (ho.1 _ (List.getElem_mem _)).2.2.2.2.2
  have hups : upsOk L L.length := fun j a b => by
    have := hup j.toNat (by omega)
    rw [show ((j.toNat : Nat) : Int) = j by omega] at this
    rw [this]
    split
    · omega
    · split <;> omega
  refine ⟨by intro h; rw [h] at hlen; simp at hlen, by rw [e0], by rw [e0], by rw [e0], fun j a b => ?_⟩
  obtain ⟨j, rfl⟩ : ∃ m : Nat, j = m := ⟨j.toNat, by omega⟩
  have hj : j < L.length := by omega
  by_cases c0 : j = 0
  · subst c0
    rw [show ((0 : Nat) : Int) = 0 from rfl]
    unfold okAt
    rw [e0]
    exact ⟨by show (1 : Int) ≤ 1; omega, by show (1 : Int) ≤ 18; omega, by show (0 : Int) ≤ n; omega, fun h => absurd rfl h⟩
  by_cases c1 : j = 1
  · subst c1
    rw [show ((1 : Nat) : Int) = 1 from rfl]
    unfold okAt
    rw [e1]
    refine ⟨h1, h2, by show (0 : Int) ≤ n; omega, fun _ => ⟨by show (0 : Int) ≤ 0; omega, by show (0 : Int) < 1; omega, ?_, ?_, ?_, fun k' a b => by omega⟩⟩
    · show (0 : Int) ∈ anc L (1 - 1)
      exact anc_self hups (by omega) (by omega)
    · show (nd L 0).fro ≤ (0 : Int)
      rw [e0]; exact Int.le_refl _
    · show (n : Int) ≤ (nd L 0).too
      rw [e0]; exact Int.le_refl _
  · have hm : j - 2 < ms.length := by omega
    have ej := e2 (j - 2) hm
    rw [show j - 2 + 2 = j by omega] at ej
    have hx := ho.1 _ (List.getElem_mem hm)
    unfold okAt
    rw [ej]
    refine ⟨hx.1, hx.2.1, by rw [hx.2.2.2.1]; omega, fun _ => ?_⟩
    rw [hx.2.2.2.2.2]
    refine ⟨by decide, by omega, ?_, by rw [e1]; exact hx.2.2.1, by rw [e1]; show _ ≤ (n : Int); omega, fun k' a' b' hk' => ?_⟩
    · by_cases d : j = 2
      · subst d; exact anc_self hups (b := ((2 : Nat) : Int) - 1) (by omega) (by omega)
      · have hu := hup (j - 1) (by omega)
        rw [if_neg (by omega), if_neg (by omega), show ((j - 1 : Nat) : Int) = (j : Int) - 1 by omega] at hu
        rw [anc_cons hups (by omega) (by omega), hu]
        exact List.mem_cons_of_mem _ (anc_self hups (by omega) (by omega))
    · obtain ⟨q, rfl⟩ : ∃ m : Nat, k' = m := ⟨k'.toNat, by omega⟩
      have hu := hup q (by omega)
      rw [hk'] at hu
      by_cases d : q = 1
      · rw [if_neg (by omega), if_pos d] at hu; cases hu
      · have hq : q - 2 < ms.length := by omega
        have eq := e2 (q - 2) hq
        rw [show q - 2 + 2 = q by omega] at eq
        rw [eq]
        exact List.pairwise_iff_getElem.1 ho.2 (q - 2) (j - 2) hq hm (by omega)

theorem law8 (x0 : Int) (x1 : List Lf) (x2 : List Int) (h0 : wfD (.int .i64) x0) (h1 : wfD (.list (.pair (.int .i64) (.pair .str (.pair (.int .i64) (.pair (.int .i64) .unit))))) x1) (h2 : wfD (.list (.int .i64)) x2) : fn8 x0 x1 x2 = some (true, ()) := by
  rw [fn8]
  rcases short_eq x1 24 (by omega) with ⟨h, hn, hs⟩ | h
  rotate_left
  · rw [show fn12 x1 24 = _ from h]; rfl
  rw [show fn12 x1 24 = _ from h, obind_some]
  simp only [Bool.not_true, cond_false]
  by_cases c : x2.length ≤ x1.length
  rotate_left
  · rw [bif_t (ltI_t (by rw [lenI_eq, lenI_eq]; omega))]
  rw [bif_f (ltI_n (by rw [lenI_eq, lenI_eq]; omega))]
  by_cases c1 : x0 < 1
  · rw [bif_t (ltI_t c1)]
  rw [bif_f (ltI_n c1)]
  by_cases c2 : 18 < x0
  · rw [bif_t (ltI_t c2)]
  rw [bif_f (ltI_n c2)]
  obtain ⟨ms, e, hm, ho⟩ := forms_loop x1 x2 (by omega) (1, (0, ((lenI x1), ((-1), ())))) (x0, (0, ((lenI x1), (0, ())))) fuelN 0 [] (big_fuel (by omega)) (by omega) (by simp) ⟨fun x hx => (by cases hx), List.Pairwise.nil⟩
  have hR := forms_right (k := x0) (by omega) (by omega) x1.length (c := (x2.length : Int)) (by omega) ho
  rw [show lp8_7 fuelN x1 x2 0 _ = _ from e, obind_some]
  unfold osum
  simp only
  obtain ⟨b, e1, e2⟩ := fits_same hs hR (by simp; omega) (i := 1) (by simp)
  rcases fn11_eq (l := ((1, (0, ((lenI x1), ((-1), ())))) :: (x0, (0, ((lenI x1), (0, ())))) :: ms)) (by simp; omega) (lenI x1) with ⟨_, h11⟩ | ⟨h, _⟩
  rotate_left
  · exact absurd hR h
  rw [fn25, fn29, bif_t (leI_t (by omega)), bif_t (ltI_t (by rw [lenI_eq]; simp only [List.length_cons]; omega)), h11, obind_some, obind_some]
  simp only [cond_true]
  rw [show fn36 x1 ((1, (0, ((lenI x1), ((-1), ())))) :: (x0, (0, ((lenI x1), (0, ())))) :: ms) 1 = _ from e1, obind_some, obind_some, show fn16 x1 ((1, (0, ((lenI x1), ((-1), ())))) :: (x0, (0, ((lenI x1), (0, ())))) :: ms) 1 = _ from e2, obind_some]
  simp only
  cases b <;> rfl
end Go.Proofs.Ytkloefipjbeneaa
