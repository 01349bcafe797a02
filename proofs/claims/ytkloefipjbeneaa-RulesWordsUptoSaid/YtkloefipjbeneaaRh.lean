/-
  All places to which a form leads: the document's functions.
-/
import Derived.Test.YtkloefipjbeneaaRt
import Derived.Test.YtkloefipjbeneaaFb
namespace Go.Proofs.Ytkloefipjbeneaa
open Go.RowKit
set_option linter.unusedVariables false
set_option linter.unusedSimpArgs false

theorem getD_set {α : Type} (l : List α) (i j : Nat) (v d : α) : (l.set i v).getD j d = if j = i ∧ i < l.length then v else l.getD j d := by
  rw [List.getD_eq_getElem?_getD, List.getD_eq_getElem?_getD, List.getElem?_set]
  by_cases h : i = j
  · subst h
    by_cases h2 : i < l.length
    · simp [h2]
    · simp [h2]
  · rw [if_neg h, if_neg (by omega)]

theorem in37_go (L : List UInt8) (c : UInt8) (hL : L.length < 1000000) : ∀ (m N k : Nat), k + m = L.length → m < N →
    ((L.drop k).contains c = true ∧ lp37_2 N (c.toNat : Int) L (k : Int) = some (.inr ((true, ()), ()))) ∨ ((L.drop k).contains c = false ∧ lp37_2 N (c.toNat : Int) L (k : Int) = some (.inl ((), ())))
  | m, 0, k, _, h => by omega
  | 0, N + 1, k, h1, _ => by
    rw [lp37_2, st37_2, bif_f (ltI_f (b := lenI L) (by rw [lenI_eq]; omega)), List.drop_of_length_le (by omega)]
    exact .inr ⟨rfl, rfl⟩
  | m + 1, N + 1, k, h1, h2 => by
    have hk : k < L.length := by omega
    have ea : addK .i64 (k : Int) 1 = ((k + 1 : Nat) : Int) := by rw [addK_eq (by omega) (by omega)]; rfl
    rw [lp37_2, st37_2, bif_t (ltI_t (b := lenI L) (by rw [lenI_eq]; omega)), bif_t (inI_t (by omega) (by omega)), List.drop_eq_getElem_cons hk]
    have hg : byteAt L (k : Int) = (L[k].toNat : Int) := by simp [byteAt, List.getD, hk]
    rw [hg, ea, List.contains_cons]
    by_cases hc : c = L[k]
    · rw [bif_t (eqI_t (by rw [hc]))]
      exact .inl ⟨by rw [hc]; simp, rfl⟩
    · have hne : (L[k].toNat : Int) ≠ (c.toNat : Int) := fun h => hc (UInt8.toNat_inj.1 (by omega))
      rw [bif_f (eqI_f hne), show (c == L[k]) = false by simpa using hc, Bool.false_or]
      exact in37_go L c hL m N (k + 1) (by omega) (by omega)

theorem in37 (L : List UInt8) (c : UInt8) (hL : L.length < 1000000) : fn37 (c.toNat : Int) L = some (L.contains c, ()) := by
  rw [fn37]
  rcases in37_go L c hL L.length fuelN 0 (by omega) (by unfold fuelN; omega) with ⟨h1, h2⟩ | ⟨h1, h2⟩
  · rw [show lp37_2 fuelN (c.toNat : Int) L 0 = _ from h2]
    rw [List.drop_zero] at h1
    rw [h1]; rfl
  · rw [show lp37_2 fuelN (c.toNat : Int) L 0 = _ from h2]
    rw [List.drop_zero] at h1
    rw [h1]; rfl

theorem getI_at (x : List Bool) (i : Nat) : getI x false (i : Int) = x.getD i false := rfl
theorem nthN_at (x : List Bool) (i : Nat) : nthN x false (natI (i : Int)) = x.getD i false := rfl

theorem rep_getD (n i : Nat) : (repN n false).getD i false = false := by
  unfold repN
  rw [List.getD_eq_getElem?_getD, List.getElem?_replicate]
  split <;> rfl

theorem hit_lin {row : List UInt8} {x : List Bool} (P Q : Lg) : Hit row x (Or P Q) ↔ Hit row x P ∨ Hit row x Q := by
  constructor
  · rintro ⟨i, a, b, c | c⟩
    · exact .inl ⟨i, a, b, c⟩
    · exact .inr ⟨i, a, b, c⟩
  · rintro (⟨i, a, b, c⟩ | ⟨i, a, b, c⟩)
    · exact ⟨i, a, b, .inl c⟩
    · exact ⟨i, a, b, .inr c⟩

theorem copy_go (x a b : List Bool) (p q : List UInt8) (c d : List Bool) (hx : x.length < 1000000) : ∀ (k N i : Nat) (y : List Bool), i + k = x.length → k < N → y.length = x.length →
    (∀ j, j < i → y.getD j false = x.getD j false) →
    lp44_45_3 N x x (i : Int) p a q b c y = some (.inl ((), ((p, a, q, b, c, ()), (), ()), (x, ())))
  | k, 0, i, y, h1, h2, h3, h4 => by omega
  | 0, N + 1, i, y, h1, h2, h3, h4 => by
    rw [lp44_45_3, st44_45_3, bif_f (ltI_f (by rw [lenI_eq]; omega))]
    have : y = x := by
      apply List.ext_getElem h3
      intro j hj1 hj2
      have := h4 j (by omega)
      simpa [List.getD_eq_getElem?_getD, hj1, hj2] using this
    rw [this]
  | k + 1, N + 1, i, y, h1, h2, h3, h4 => by
    have ea : addK .i64 (i : Int) 1 = ((i + 1 : Nat) : Int) := by rw [addK_eq (by omega) (by omega)]; rfl
    rw [lp44_45_3, st44_45_3, bif_t (ltI_t (by rw [lenI_eq]; omega)), bif_t (inI_t (by omega) (by omega)), ea]
    have go : ∀ v, v = x.getD i false → lp44_45_3 N x x ((i + 1 : Nat) : Int) p a q b c (setI y (natI (i : Int)) v) = some (.inl ((), ((p, a, q, b, c, ()), (), ()), (x, ()))) := by
      intro v hv
      refine copy_go x a b p q c d hx k N (i + 1) _ (by omega) (by omega) (by rw [setI, List.length_set]; exact h3) ?_
      intro j hj
      rw [setI, getD_set, show natI (i : Int) = i from rfl]
      by_cases e : j = i
      · subst e; rw [if_pos ⟨rfl, by omega⟩]; exact hv
      · rw [if_neg (by omega)]; exact h4 j (by omega)
    rw [getI_at]
    cases hxi : x.getD i false with
    | true =>
      simp only [cond_true]
      rw [bif_t (inI_t (by omega) (by omega)), bif_t (ltL_t (by rw [show natI (i : Int) = i from rfl]; omega))]
      exact go _ hxi.symm
    | false =>
      simp only [cond_false]
      rw [bif_t (inI_t (by omega) (by omega)), bif_t (inI_t (by omega) (by omega)), bif_t (ltL_t (by rw [show natI (i : Int) = i from rfl]; omega))]
      exact go _ hxi.symm

theorem rep_go {row : List UInt8} (p : Int) (B : Lg → Lg) (hB : Lin B)
    (hst : ∀ (N : Nat) (x : List Bool) (i : Int), x.length = row.length + 1 → 0 ≤ i → i ≤ row.length → ∃ y, lp47_2 (N + 1) row x p i = lp47_2 N row y p (i + 1) ∧ y.length = row.length + 1 ∧ ∀ Q, Hit row y Q ↔ Hit row x Q ∨ Hit row x (B Q)) :
    ∀ (k N : Nat) (i : Int) (x : List Bool), i + k = row.length + 1 → 0 ≤ i → k < N → x.length = row.length + 1 →
    ∃ y, lp47_2 N row x p i = some (.inl ((y, ()), ())) ∧ y.length = row.length + 1 ∧ ∀ Q, Hit row y Q ↔ Hit row x (rounds B k Q)
  | k, 0, i, x, h1, h0, h2, h3 => by omega
  | 0, N + 1, i, x, h1, h0, h2, h3 => by
    refine ⟨x, ?_, h3, fun Q => Iff.rfl⟩
    rw [lp47_2, st47_2, bif_f (leI_n (by rw [lenI_eq]; omega))]
  | k + 1, N + 1, i, x, h1, h0, h2, h3 => by
    obtain ⟨y, a1, a2, a3⟩ := hst N x i h3 h0 (by omega)
    obtain ⟨z, b1, b2, b3⟩ := rep_go p B hB hst k N (i + 1) y (by omega) (by omega) (by omega) a2
    refine ⟨z, by rw [a1]; exact b1, b2, fun Q => ?_⟩
    rw [b3, a3, ← hit_lin]
    exact hit_mono fun s => (rounds_succ k Q s).symm

theorem obind_eq {α β : Type} {o : Option α} {x : α} {k : α → Option β} (h : o = some x) : obind o k = k x := by rw [h]; rfl

theorem inI_end {row : List UInt8} {y : List Bool} (h : y.length = row.length + 1) : inI y (lenI row) = true :=
  inI_t (by rw [lenI_eq]; omega) (show lenI row < (y.length : Int) by rw [lenI_eq]; omega)

section
variable {row : List UInt8} (hr : row.length < 100000)
include hr


theorem one_go (x : List Bool) (hx : x.length = row.length + 1) (S : List UInt8) (hS : S.length < 1000000) : ∀ (k N i : Nat) (y : List Bool), i + k = row.length → k < N → y.length = row.length + 1 → y.getD 0 false = false →
    (∀ j, j < i → y.getD (j + 1) false = (x.getD j false && S.contains (row.getD j 0))) →
    ∃ z, lp46_3 N row x S (i : Int) y = some (.inl ((), (z, ()))) ∧ z.length = row.length + 1 ∧ z.getD 0 false = false ∧ ∀ j, j < row.length → z.getD (j + 1) false = (x.getD j false && S.contains (row.getD j 0))
  | k, 0, i, y, h1, h2, h3, h4, h5 => by omega
  | 0, N + 1, i, y, h1, h2, h3, h4, h5 => by
    refine ⟨y, ?_, h3, h4, fun j hj => h5 j (by omega)⟩
    rw [lp46_3, st46_3, bif_f (ltI_f (by rw [lenI_eq]; omega))]
  | k + 1, N + 1, i, y, h1, h2, h3, h4, h5 => by
    have ea : addK .i64 (i : Int) 1 = ((i + 1 : Nat) : Int) := by rw [addK_eq (by omega) (by omega)]; rfl
    have hb : byteAt row (i : Int) = ((row.getD i 0).toNat : Int) := rfl
    rw [lp46_3, st46_3, bif_t (ltI_t (by rw [lenI_eq]; omega)), bif_t (inI_t (by omega) (by omega)), ea]
    have go : ∀ v, v = (x.getD i false && S.contains (row.getD i 0)) → ∃ z, lp46_3 N row x S ((i + 1 : Nat) : Int) (setI y (natI ((i + 1 : Nat) : Int)) v) = some (.inl ((), (z, ()))) ∧ z.length = row.length + 1 ∧ z.getD 0 false = false ∧ ∀ j, j < row.length → z.getD (j + 1) false = (x.getD j false && S.contains (row.getD j 0)) := by
      intro v hv
      refine one_go x hx S hS k N (i + 1) _ (by omega) (by omega) (by rw [setI, List.length_set]; exact h3) ?_ ?_
      · rw [setI, getD_set, if_neg (by rw [show natI ((i + 1 : Nat) : Int) = i + 1 from rfl]; omega)]; exact h4
      · intro j hj
        rw [setI, getD_set, show natI ((i + 1 : Nat) : Int) = i + 1 from rfl]
        by_cases e : j = i
        · subst e; rw [if_pos ⟨rfl, by omega⟩]; exact hv
        · rw [if_neg (by omega)]; exact h5 j (by omega)
    rw [getI_at]
    cases hxi : x.getD i false with
    | true =>
      simp only [cond_true]
      rw [bif_t (inI_t (by omega) (by omega)), hb, in37 S _ hS, obind_some, bif_t (inI_t (by omega) (by omega)), bif_t (ltL_t (by rw [show natI ((i + 1 : Nat) : Int) = i + 1 from rfl]; omega))]
      exact go _ (by rw [hxi, Bool.true_and])
    | false =>
      simp only [cond_false]
      rw [bif_t (inI_t (by omega) (by omega)), bif_t (ltL_t (by rw [show natI ((i + 1 : Nat) : Int) = i + 1 from rfl]; omega))]
      exact go _ (by rw [hxi, Bool.false_and])


theorem room_ok {x : List Bool} (hx : x.length = row.length + 1) : ((leI 0 (lenI x)) && ((leI (lenI x) (lenI x)) && (roomC (lenI x) 1))) = true := by
  simp only [Bool.and_eq_true]
  refine ⟨leI_t (by rw [lenI_eq]; omega), leI_t (by omega), ?_⟩
  unfold roomC roomN
  rw [lenI_eq, hx]
  simp only [decide_eq_true_eq]
  omega

theorem places_one (x : List Bool) (hx : x.length = row.length + 1) (S : List UInt8) (hS : S.length < 1000000) :
    ∃ y, fn46 row x S = some (y, ()) ∧ y.length = row.length + 1 ∧ ∀ Q, Hit row y Q ↔ Hit row x (One S Q) := by
  obtain ⟨y, h1, h2, h3, h4⟩ := one_go hr x hx S hS row.length fuelN 0 (repN (natI (lenI x)) false) (by omega) (by unfold fuelN; omega)
    (by unfold repN; rw [List.length_replicate, lenI_eq, hx]; rfl) (rep_getD _ _) (fun j hj => by omega)
  refine ⟨y, ?_, h2, fun Q => hit_one h3 h4⟩
  rw [fn46, bif_t (room_ok hr hx), show lp46_3 fuelN row x S 0 _ = _ from h1]
  rfl

theorem many_go (x : List Bool) (hx : x.length = row.length + 1) (S : List UInt8) (hS : S.length < 1000000) : ∀ (k N i : Nat) (y : List Bool), i + k = row.length → k < N → y.length = row.length + 1 → y.getD 0 false = x.getD 0 false →
    (∀ j, j < i → y.getD (j + 1) false = (x.getD (j + 1) false || (y.getD j false && S.contains (row.getD j 0)))) → (∀ j, i < j → y.getD j false = x.getD j false) →
    ∃ z, lp44_3 N row S (i : Int) y = some (.inl ((), (z, ()))) ∧ z.length = row.length + 1 ∧ z.getD 0 false = x.getD 0 false ∧ ∀ j, j < row.length → z.getD (j + 1) false = (x.getD (j + 1) false || (z.getD j false && S.contains (row.getD j 0)))
  | k, 0, i, y, h1, h2, h3, h4, h5, h6 => by omega
  | 0, N + 1, i, y, h1, h2, h3, h4, h5, h6 => by
    refine ⟨y, ?_, h3, h4, fun j hj => h5 j (by omega)⟩
    rw [lp44_3, st44_3, bif_f (ltI_f (by rw [lenI_eq]; omega))]
  | k + 1, N + 1, i, y, h1, h2, h3, h4, h5, h6 => by
    have ea : addK .i64 (i : Int) 1 = ((i + 1 : Nat) : Int) := by rw [addK_eq (by omega) (by omega)]; rfl
    have hb : byteAt row (i : Int) = ((row.getD i 0).toNat : Int) := rfl
    have hl : natI ((i + 1 : Nat) : Int) < y.length := by rw [show natI ((i + 1 : Nat) : Int) = i + 1 from rfl]; omega
    have hl0 : natI (i : Int) < y.length := by rw [show natI (i : Int) = i from rfl]; omega
    rw [lp44_3, st44_3, bif_t (ltI_t (by rw [lenI_eq]; omega)), ea, bif_t (inI_t (by omega) (by omega)), bif_t (ltL_t hl), nthN_at, nthN_at]
    have go : ∀ v, v = (x.getD (i + 1) false || (y.getD i false && S.contains (row.getD i 0))) → ∃ z, lp44_3 N row S ((i + 1 : Nat) : Int) (setI y (natI ((i + 1 : Nat) : Int)) v) = some (.inl ((), (z, ()))) ∧ z.length = row.length + 1 ∧ z.getD 0 false = x.getD 0 false ∧ ∀ j, j < row.length → z.getD (j + 1) false = (x.getD (j + 1) false || (z.getD j false && S.contains (row.getD j 0))) := by
      intro v hv
      have hn : natI ((i + 1 : Nat) : Int) = i + 1 := rfl
      refine many_go x hx S hS k N (i + 1) _ (by omega) (by omega) (by rw [setI, List.length_set]; exact h3) ?_ ?_ ?_
      · rw [setI, getD_set, if_neg (by rw [hn]; omega)]; exact h4
      · intro j hj
        rw [setI, getD_set, getD_set, hn, if_neg (c := j = i + 1 ∧ i + 1 < y.length) (by omega)]
        by_cases e : j = i
        · subst e; rw [if_pos ⟨rfl, by omega⟩]; exact hv
        · rw [if_neg (by omega)]; exact h5 j (by omega)
      · intro j hj
        rw [setI, getD_set, hn, if_neg (by omega)]; exact h6 j (by omega)
    have e1 := h6 (i + 1) (by omega)
    rw [e1]
    cases hxi : x.getD (i + 1) false with
    | true =>
      simp only [cond_true]
      rw [bif_t (inI_t (by omega) (by omega)), bif_t (ltL_t hl)]
      exact go _ (by rw [hxi, Bool.true_or])
    | false =>
      simp only [cond_false]
      rw [bif_t (inI_t (by omega) (by omega)), bif_t (ltL_t hl0)]
      cases hyi : y.getD i false with
      | true =>
        simp only [cond_true]
        rw [bif_t (inI_t (by omega) (by omega)), hb, in37 S _ hS, obind_some, bif_t (inI_t (by omega) (by omega)), bif_t (ltL_t hl)]
        exact go _ (by rw [hxi, hyi, Bool.false_or, Bool.true_and])
      | false =>
        simp only [cond_false]
        rw [bif_t (inI_t (by omega) (by omega)), bif_t (ltL_t hl)]
        exact go _ (by rw [hxi, hyi, Bool.false_or, Bool.false_and])

theorem places_many (x : List Bool) (hx : x.length = row.length + 1) (S : List UInt8) (hS : S.length < 1000000) :
    ∃ y, fn44 row x S = some (y, ()) ∧ y.length = row.length + 1 ∧ ∀ Q, Hit row y Q ↔ Hit row x (Many S Q) := by
  have hc := copy_go x x x row S x x (by omega) x.length fuelN 0 (repN (natI (lenI x)) false) (by omega) (by unfold fuelN; omega) (by unfold repN; rw [List.length_replicate]; rfl) (fun j hj => by omega)
  obtain ⟨y, h1, h2, h3, h4⟩ := many_go hr x hx S hS row.length fuelN 0 x (by omega) (by unfold fuelN; omega) hx rfl (fun j hj => by omega) (fun j hj => rfl)
  refine ⟨y, ?_, h2, fun Q => hit_many h3 h4⟩
  rw [fn44, bif_t (room_ok hr hx), show lp44_45_3 fuelN x x 0 _ _ _ _ _ _ = _ from hc, obind_some]
  show (obind (lp44_3 fuelN row S 0 x) fun y2 => osum y2 (fun a3 => some (a3.2.1, ())) fun b3 => some (b3.1.1, ())) = _
  rw [show lp44_3 fuelN row S 0 x = _ from h1]
  rfl

theorem or_go (x z : List Bool) (hx : x.length = row.length + 1) (hz : z.length = row.length + 1) : ∀ (k N i : Nat) (y : List Bool), i + k = x.length → k < N → y.length = x.length →
    (∀ j, j < i → y.getD j false = (x.getD j false || z.getD j false)) →
    ∃ u, lp45_3 N x z (i : Int) y = some (.inl ((), (u, ()))) ∧ u.length = x.length ∧ ∀ j, j < x.length → u.getD j false = (x.getD j false || z.getD j false)
  | k, 0, i, y, h1, h2, h3, h4 => by omega
  | 0, N + 1, i, y, h1, h2, h3, h4 => by
    refine ⟨y, ?_, h3, fun j hj => h4 j (by omega)⟩
    rw [lp45_3, st45_3, bif_f (ltI_f (by rw [lenI_eq]; omega))]
  | k + 1, N + 1, i, y, h1, h2, h3, h4 => by
    have ea : addK .i64 (i : Int) 1 = ((i + 1 : Nat) : Int) := by rw [addK_eq (by omega) (by omega)]; rfl
    rw [lp45_3, st45_3, bif_t (ltI_t (by rw [lenI_eq]; omega)), bif_t (inI_t (by omega) (by omega)), ea]
    have go : ∀ v, v = (x.getD i false || z.getD i false) → ∃ u, lp45_3 N x z ((i + 1 : Nat) : Int) (setI y (natI (i : Int)) v) = some (.inl ((), (u, ()))) ∧ u.length = x.length ∧ ∀ j, j < x.length → u.getD j false = (x.getD j false || z.getD j false) := by
      intro v hv
      refine or_go x z hx hz k N (i + 1) _ (by omega) (by omega) (by rw [setI, List.length_set]; exact h3) ?_
      intro j hj
      rw [setI, getD_set, show natI (i : Int) = i from rfl]
      by_cases e : j = i
      · subst e; rw [if_pos ⟨rfl, by omega⟩]; exact hv
      · rw [if_neg (by omega)]; exact h4 j (by omega)
    rw [getI_at, getI_at]
    cases hxi : x.getD i false with
    | true =>
      simp only [cond_true]
      rw [bif_t (inI_t (by omega) (by omega)), bif_t (ltL_t (by rw [show natI (i : Int) = i from rfl]; omega))]
      exact go _ (by rw [hxi, Bool.true_or])
    | false =>
      simp only [cond_false]
      rw [bif_t (inI_t (by omega) (by omega)), bif_t (inI_t (by omega) (by omega)), bif_t (ltL_t (by rw [show natI (i : Int) = i from rfl]; omega))]
      exact go _ (by rw [hxi, Bool.false_or])

theorem places_or (x z : List Bool) (hx : x.length = row.length + 1) (hz : z.length = row.length + 1) :
    ∃ y, fn45 x z = some (y, ()) ∧ y.length = row.length + 1 ∧ ∀ Q, Hit row y Q ↔ Hit row x Q ∨ Hit row z Q := by
  obtain ⟨y, h1, h2, h3⟩ := or_go hr x z hx hz x.length fuelN 0 (repN (natI (lenI x)) false) (by omega) (by unfold fuelN; omega) (by unfold repN; rw [List.length_replicate]; rfl) (fun j hj => by omega)
  refine ⟨y, ?_, by omega, fun Q => hit_or fun i hi => h3 i (by omega)⟩
  rw [fn45, bif_t (room_ok hr hx), show lp45_3 fuelN x z 0 _ = _ from h1]
  rfl

theorem places_begin : ∃ y, fn43 row = some (y, ()) ∧ y.length = row.length + 1 ∧ ∀ Q, Hit row y Q ↔ Q row := by
  have e : addK .i64 (lenI row) 1 = ((row.length + 1 : Nat) : Int) := by rw [lenI_eq, addK_eq (by omega) (by omega)]; rfl
  have hn : natI ((row.length + 1 : Nat) : Int) = row.length + 1 := rfl
  have hn0 : natI 0 = 0 := rfl
  have hl : (repN (row.length + 1) false).length = row.length + 1 := by unfold repN; rw [List.length_replicate]
  refine ⟨setI (repN (row.length + 1) false) 0 true, ?_, by rw [setI, List.length_set, hl], fun Q => hit_begin ?_ fun i hi => ?_⟩
  · rw [fn43, e, bif_t, bif_t (inI_t (by omega) (by rw [hn, hl]; omega)), bif_t (ltL_t (by rw [hn, hn0, hl]; omega))]
    · rfl
    · simp only [Bool.and_eq_true]
      refine ⟨leI_t (by omega), leI_t (by omega), ?_⟩
      unfold roomC roomN
      simp only [decide_eq_true_eq]
      omega
  · rw [setI, getD_set, if_pos ⟨rfl, by omega⟩]
  · rw [setI, getD_set, if_neg (by omega), rep_getD]

theorem places_body (x : List Bool) (hx : x.length = row.length + 1) : ∃ y, fn49 row x = some (y, ()) ∧ y.length = row.length + 1 ∧ ∀ Q, Hit row y Q ↔ Hit row x (bodyL Q) := by
  obtain ⟨y, h1, h2, h3⟩ := places_many hr x hx [110] (by decide)
  obtain ⟨z, g1, g2, g3⟩ := places_one hr y h2 [76] (by decide)
  refine ⟨z, ?_, g2, fun Q => (g3 Q).trans (h3 _)⟩
  rw [fn49, h1, obind_some, g1]
  rfl


theorem places_sep (x : List Bool) (hx : x.length = row.length + 1) : ∃ y, fn48 row x = some (y, ()) ∧ y.length = row.length + 1 ∧ ∀ Q, Hit row y Q ↔ Hit row x (sepL Q) := by
  obtain ⟨y1, a1, a2, a3⟩ := places_one hr x hx [59, 38] (by decide)
  obtain ⟨y2, b1, b2, b3⟩ := places_many hr y1 a2 [110] (by decide)
  obtain ⟨y3, c1, c2, c3⟩ := places_one hr x hx [110] (by decide)
  obtain ⟨y4, d1, d2, d3⟩ := places_many hr y3 c2 [110] (by decide)
  obtain ⟨y5, e1, e2, e3⟩ := places_or hr y2 y4 b2 d2
  refine ⟨y5, ?_, e2, fun Q => ?_⟩
  · rw [fn48, a1, obind_some, b1, obind_some, c1, obind_some, d1, obind_some, e1]; rfl
  · rw [e3, b3, a3, d3, c3, ← hit_lin]

theorem rep_list (x : List Bool) (hx : x.length = row.length + 1) : ∃ y, fn47 row x 1 = some (y, ()) ∧ y.length = row.length + 1 ∧ ∀ Q, Hit row y Q ↔ Hit row x (Star (pc1) Q) := by
  have hst : ∀ (N : Nat) (x : List Bool) (i : Int), x.length = row.length + 1 → 0 ≤ i → i ≤ row.length → ∃ y, lp47_2 (N + 1) row x 1 i = lp47_2 N row y 1 (i + 1) ∧ y.length = row.length + 1 ∧ ∀ Q, Hit row y Q ↔ Hit row x Q ∨ Hit row x (pc1 Q) := by
    intro N x i hx h0 hi
    obtain ⟨y0, a0, b0, c0⟩ := places_sep hr x hx
    obtain ⟨y1, a1, b1, c1⟩ := places_one hr y0 b0 [65] (by decide)
    obtain ⟨z, d1, d2, d3⟩ := places_or hr x y1 hx b1
    refine ⟨z, ?_, d2, fun Q => ?_⟩
    · rw [lp47_2, st47_2, bif_t (leI_t (by rw [lenI_eq]; omega))]
      simp only [show eqI 1 1 = true from rfl, cond_true]
      rw [a0, obind_some, a1, obind_some, d1, obind_some, addK_eq (by omega) (by omega)]
    · rw [d3, c1, c0]
  obtain ⟨y, h1, h2, h3⟩ := rep_go 1 (pc1) lin_pc1 hst (row.length + 1) fuelN 0 x (by omega) (by omega) (by unfold fuelN; omega) hx
  refine ⟨y, ?_, h2, fun Q => ?_⟩
  · rw [fn47, h1]; rfl
  · rw [h3]
    constructor
    · rintro ⟨i, a, b, c⟩
      exact ⟨i, a, b, (rounds_star lin_pc1 eats_pc1 (by rw [List.length_drop]; omega)).1 c⟩
    · rintro ⟨i, a, b, c⟩
      exact ⟨i, a, b, (rounds_star lin_pc1 eats_pc1 (by rw [List.length_drop]; omega)).2 c⟩

theorem rep_and (x : List Bool) (hx : x.length = row.length + 1) : ∃ y, fn47 row x 2 = some (y, ()) ∧ y.length = row.length + 1 ∧ ∀ Q, Hit row y Q ↔ Hit row x (Star (pcJ [97, 111] [73]) Q) := by
  have hst : ∀ (N : Nat) (x : List Bool) (i : Int), x.length = row.length + 1 → 0 ≤ i → i ≤ row.length → ∃ y, lp47_2 (N + 1) row x 2 i = lp47_2 N row y 2 (i + 1) ∧ y.length = row.length + 1 ∧ ∀ Q, Hit row y Q ↔ Hit row x Q ∨ Hit row x (pcJ [97, 111] [73] Q) := by
    intro N x i hx h0 hi
    obtain ⟨y0, a0, b0, c0⟩ := places_one hr x hx [97, 111] (by decide)
    obtain ⟨y1, a1, b1, c1⟩ := places_many hr y0 b0 [110] (by decide)
    obtain ⟨y2, a2, b2, c2⟩ := places_one hr y1 b1 [73] (by decide)
    obtain ⟨z, d1, d2, d3⟩ := places_or hr x y2 hx b2
    refine ⟨z, ?_, d2, fun Q => ?_⟩
    · rw [lp47_2, st47_2, bif_t (leI_t (by rw [lenI_eq]; omega))]
      simp only [show eqI 2 1 = false from rfl, cond_false, show eqI 2 2 = true from rfl, cond_true]
      rw [a0, obind_some, a1, obind_some, a2, obind_some, d1, obind_some, addK_eq (by omega) (by omega)]
    · rw [d3, c2, c1, c0]
  obtain ⟨y, h1, h2, h3⟩ := rep_go 2 (pcJ [97, 111] [73]) (lin_pcJ _ _) hst (row.length + 1) fuelN 0 x (by omega) (by omega) (by unfold fuelN; omega) hx
  refine ⟨y, ?_, h2, fun Q => ?_⟩
  · rw [fn47, h1]; rfl
  · rw [h3]
    constructor
    · rintro ⟨i, a, b, c⟩
      exact ⟨i, a, b, (rounds_star (lin_pcJ _ _) (eats_pcJ _ _) (by rw [List.length_drop]; omega)).1 c⟩
    · rintro ⟨i, a, b, c⟩
      exact ⟨i, a, b, (rounds_star (lin_pcJ _ _) (eats_pcJ _ _) (by rw [List.length_drop]; omega)).2 c⟩

theorem rep_pipe (x : List Bool) (hx : x.length = row.length + 1) : ∃ y, fn47 row x 3 = some (y, ()) ∧ y.length = row.length + 1 ∧ ∀ Q, Hit row y Q ↔ Hit row x (Star (pcJ [124] cmdS) Q) := by
  have hst : ∀ (N : Nat) (x : List Bool) (i : Int), x.length = row.length + 1 → 0 ≤ i → i ≤ row.length → ∃ y, lp47_2 (N + 1) row x 3 i = lp47_2 N row y 3 (i + 1) ∧ y.length = row.length + 1 ∧ ∀ Q, Hit row y Q ↔ Hit row x Q ∨ Hit row x (pcJ [124] cmdS Q) := by
    intro N x i hx h0 hi
    obtain ⟨y0, a0, b0, c0⟩ := places_one hr x hx [124] (by decide)
    obtain ⟨y1, a1, b1, c1⟩ := places_many hr y0 b0 [110] (by decide)
    obtain ⟨y2, a2, b2, c2⟩ := places_one hr y1 b1 cmdS (by decide)
    obtain ⟨z, d1, d2, d3⟩ := places_or hr x y2 hx b2
    refine ⟨z, ?_, d2, fun Q => ?_⟩
    · rw [lp47_2, st47_2, bif_t (leI_t (by rw [lenI_eq]; omega))]
      simp only [show eqI 3 1 = false from rfl, cond_false, show eqI 3 2 = false from rfl, cond_false, show eqI 3 3 = true from rfl, cond_true]
      rw [a0, obind_some, a1, obind_some, a2, obind_some, d1, obind_some, addK_eq (by omega) (by omega)]
    · rw [d3, c2, c1, c0]
  obtain ⟨y, h1, h2, h3⟩ := rep_go 3 (pcJ [124] cmdS) (lin_pcJ _ _) hst (row.length + 1) fuelN 0 x (by omega) (by omega) (by unfold fuelN; omega) hx
  refine ⟨y, ?_, h2, fun Q => ?_⟩
  · rw [fn47, h1]; rfl
  · rw [h3]
    constructor
    · rintro ⟨i, a, b, c⟩
      exact ⟨i, a, b, (rounds_star (lin_pcJ _ _) (eats_pcJ _ _) (by rw [List.length_drop]; omega)).1 c⟩
    · rintro ⟨i, a, b, c⟩
      exact ⟨i, a, b, (rounds_star (lin_pcJ _ _) (eats_pcJ _ _) (by rw [List.length_drop]; omega)).2 c⟩

theorem rep_elif (x : List Bool) (hx : x.length = row.length + 1) : ∃ y, fn47 row x 4 = some (y, ()) ∧ y.length = row.length + 1 ∧ ∀ Q, Hit row y Q ↔ Hit row x (Star (pc4) Q) := by
  have hst : ∀ (N : Nat) (x : List Bool) (i : Int), x.length = row.length + 1 → 0 ≤ i → i ≤ row.length → ∃ y, lp47_2 (N + 1) row x 4 i = lp47_2 N row y 4 (i + 1) ∧ y.length = row.length + 1 ∧ ∀ Q, Hit row y Q ↔ Hit row x Q ∨ Hit row x (pc4 Q) := by
    intro N x i hx h0 hi
    obtain ⟨y0, a0, b0, c0⟩ := places_one hr x hx [101] (by decide)
    obtain ⟨y1, a1, b1, c1⟩ := places_body hr y0 b0
    obtain ⟨y2, a2, b2, c2⟩ := places_one hr y1 b1 [116] (by decide)
    obtain ⟨y3, a3, b3, c3⟩ := places_body hr y2 b2
    obtain ⟨z, d1, d2, d3⟩ := places_or hr x y3 hx b3
    refine ⟨z, ?_, d2, fun Q => ?_⟩
    · rw [lp47_2, st47_2, bif_t (leI_t (by rw [lenI_eq]; omega))]
      simp only [show eqI 4 1 = false from rfl, cond_false, show eqI 4 2 = false from rfl, cond_false, show eqI 4 3 = false from rfl, cond_false, show eqI 4 4 = true from rfl, cond_true]
      rw [a0, obind_some, a1, obind_some, a2, obind_some, a3, obind_some, d1, obind_some, addK_eq (by omega) (by omega)]
    · rw [d3, c3, c2, c1, c0]
  obtain ⟨y, h1, h2, h3⟩ := rep_go 4 (pc4) lin_pc4 hst (row.length + 1) fuelN 0 x (by omega) (by omega) (by unfold fuelN; omega) hx
  refine ⟨y, ?_, h2, fun Q => ?_⟩
  · rw [fn47, h1]; rfl
  · rw [h3]
    constructor
    · rintro ⟨i, a, b, c⟩
      exact ⟨i, a, b, (rounds_star lin_pc4 eats_pc4 (by rw [List.length_drop]; omega)).1 c⟩
    · rintro ⟨i, a, b, c⟩
      exact ⟨i, a, b, (rounds_star lin_pc4 eats_pc4 (by rw [List.length_drop]; omega)).2 c⟩

theorem rep_item (x : List Bool) (hx : x.length = row.length + 1) : ∃ y, fn47 row x 5 = some (y, ()) ∧ y.length = row.length + 1 ∧ ∀ Q, Hit row y Q ↔ Hit row x (Star (pc5) Q) := by
  have hst : ∀ (N : Nat) (x : List Bool) (i : Int), x.length = row.length + 1 → 0 ≤ i → i ≤ row.length → ∃ y, lp47_2 (N + 1) row x 5 i = lp47_2 N row y 5 (i + 1) ∧ y.length = row.length + 1 ∧ ∀ Q, Hit row y Q ↔ Hit row x Q ∨ Hit row x (pc5 Q) := by
    intro N x i hx h0 hi
    obtain ⟨y0, a0, b0, c0⟩ := places_one hr x hx [84] (by decide)
    obtain ⟨y1, a1, b1, c1⟩ := places_one hr y0 b0 [121] (by decide)
    obtain ⟨y2, a2, b2, c2⟩ := places_many hr y1 b1 [110] (by decide)
    obtain ⟨z, d1, d2, d3⟩ := places_or hr x y2 hx b2
    refine ⟨z, ?_, d2, fun Q => ?_⟩
    · rw [lp47_2, st47_2, bif_t (leI_t (by rw [lenI_eq]; omega))]
      simp only [show eqI 5 1 = false from rfl, cond_false, show eqI 5 2 = false from rfl, cond_false, show eqI 5 3 = false from rfl, cond_false, show eqI 5 4 = false from rfl, cond_false, show eqI 5 5 = true from rfl, cond_true]
      rw [a0, obind_some, a1, obind_some, a2, obind_some, d1, obind_some, addK_eq (by omega) (by omega)]
    · rw [d3, c2, c1, c0]
  obtain ⟨y, h1, h2, h3⟩ := rep_go 5 (pc5) lin_pc5 hst (row.length + 1) fuelN 0 x (by omega) (by omega) (by unfold fuelN; omega) hx
  refine ⟨y, ?_, h2, fun Q => ?_⟩
  · rw [fn47, h1]; rfl
  · rw [h3]
    constructor
    · rintro ⟨i, a, b, c⟩
      exact ⟨i, a, b, (rounds_star lin_pc5 eats_pc5 (by rw [List.length_drop]; omega)).1 c⟩
    · rintro ⟨i, a, b, c⟩
      exact ⟨i, a, b, (rounds_star lin_pc5 eats_pc5 (by rw [List.length_drop]; omega)).2 c⟩

theorem rep_word (x : List Bool) (hx : x.length = row.length + 1) : ∃ y, fn47 row x 6 = some (y, ()) ∧ y.length = row.length + 1 ∧ ∀ Q, Hit row y Q ↔ Hit row x (Star (pc6) Q) := by
  have hst : ∀ (N : Nat) (x : List Bool) (i : Int), x.length = row.length + 1 → 0 ≤ i → i ≤ row.length → ∃ y, lp47_2 (N + 1) row x 6 i = lp47_2 N row y 6 (i + 1) ∧ y.length = row.length + 1 ∧ ∀ Q, Hit row y Q ↔ Hit row x Q ∨ Hit row x (pc6 Q) := by
    intro N x i hx h0 hi
    obtain ⟨y0, a0, b0, c0⟩ := places_one hr x hx [124] (by decide)
    obtain ⟨y1, a1, b1, c1⟩ := places_one hr y0 b0 [87] (by decide)
    obtain ⟨z, d1, d2, d3⟩ := places_or hr x y1 hx b1
    refine ⟨z, ?_, d2, fun Q => ?_⟩
    · rw [lp47_2, st47_2, bif_t (leI_t (by rw [lenI_eq]; omega))]
      simp only [show eqI 6 1 = false from rfl, cond_false, show eqI 6 2 = false from rfl, cond_false, show eqI 6 3 = false from rfl, cond_false, show eqI 6 4 = false from rfl, cond_false, show eqI 6 5 = false from rfl, cond_false]
      rw [a0, obind_some, a1, obind_some, d1, obind_some, addK_eq (by omega) (by omega)]
    · rw [d3, c1, c0]
  obtain ⟨y, h1, h2, h3⟩ := rep_go 6 (pc6) lin_pc6 hst (row.length + 1) fuelN 0 x (by omega) (by omega) (by unfold fuelN; omega) hx
  refine ⟨y, ?_, h2, fun Q => ?_⟩
  · rw [fn47, h1]; rfl
  · rw [h3]
    constructor
    · rintro ⟨i, a, b, c⟩
      exact ⟨i, a, b, (rounds_star lin_pc6 eats_pc6 (by rw [List.length_drop]; omega)).1 c⟩
    · rintro ⟨i, a, b, c⟩
      exact ⟨i, a, b, (rounds_star lin_pc6 eats_pc6 (by rw [List.length_drop]; omega)).2 c⟩

theorem form1 : ∃ t, fn31 1 row = some (t, ()) ∧ (t = true ↔ kindL 1 row) := by
  obtain ⟨y0, a0, b0, c0⟩ := places_begin hr
  obtain ⟨y1, a1, b1, c1⟩ := places_many hr y0 b0 [110] (by decide)
  obtain ⟨y2, a2, b2, c2⟩ := places_one hr y1 b1 [76] (by decide)
  obtain ⟨y3, a3, b3, c3⟩ := places_or hr y1 y2 b1 b2
  refine ⟨y3.getD row.length false, ?_, ?_⟩
  · rw [fn31, a0, obind_some]
    simp only [show eqI 1 1 = true from rfl, cond_true, cond_false]
    rw [a1, obind_some, a2, obind_some, a3, obind_some, bif_t (inI_end b3)]
    rfl
  · rw [← hit_end]
    simp only [c1, c2, c3, c0, kind1]
    exact ((lin_many [110]).or _ _ _).symm

theorem form2 : ∃ t, fn31 2 row = some (t, ()) ∧ (t = true ↔ kindL 2 row) := by
  obtain ⟨y0, a0, b0, c0⟩ := places_begin hr
  obtain ⟨y1, a1, b1, c1⟩ := places_one hr y0 b0 [65] (by decide)
  obtain ⟨y2, a2, b2, c2⟩ := rep_list hr y1 b1
  obtain ⟨y3, a3, b3, c3⟩ := places_sep hr y2 b2
  obtain ⟨y4, a4, b4, c4⟩ := places_or hr y2 y3 b2 b3
  refine ⟨y4.getD row.length false, ?_, ?_⟩
  · rw [fn31, a0, obind_some]
    simp only [show eqI 2 1 = false from rfl, show eqI 2 2 = true from rfl, cond_true, cond_false]
    rw [a1, obind_some, a2, obind_some, a3, obind_some, a4, obind_some, bif_t (inI_end b4)]
    rfl
  · rw [← hit_end]
    simp only [c1, c2, c3, c4, c0, kind2]
    exact (((lin_one [65]).comp (lin_star lin_pc1)).or _ _ _).symm

theorem form3 : ∃ t, fn31 3 row = some (t, ()) ∧ (t = true ↔ kindL 3 row) := by
  obtain ⟨y0, a0, b0, c0⟩ := places_begin hr
  obtain ⟨y1, a1, b1, c1⟩ := places_one hr y0 b0 [73] (by decide)
  obtain ⟨y2, a2, b2, c2⟩ := rep_and hr y1 b1
  refine ⟨y2.getD row.length false, ?_, ?_⟩
  · rw [fn31, a0, obind_some]
    simp only [show eqI 3 1 = false from rfl, show eqI 3 2 = false from rfl, show eqI 3 3 = true from rfl, cond_true, cond_false]
    rw [a1, obind_some, a2, obind_some, bif_t (inI_end b2)]
    rfl
  · rw [← hit_end]
    simp only [c1, c2, c0, kind3] <;> exact Iff.rfl

theorem form4 : ∃ t, fn31 4 row = some (t, ()) ∧ (t = true ↔ kindL 4 row) := by
  obtain ⟨y0, a0, b0, c0⟩ := places_begin hr
  obtain ⟨y1, a1, b1, c1⟩ := places_one hr y0 b0 [33] (by decide)
  obtain ⟨y2, a2, b2, c2⟩ := places_or hr y0 y1 b0 b1
  obtain ⟨y3, a3, b3, c3⟩ := places_one hr y2 b2 cmdS (by decide)
  obtain ⟨y4, a4, b4, c4⟩ := rep_pipe hr y3 b3
  refine ⟨y4.getD row.length false, ?_, ?_⟩
  · rw [fn31, a0, obind_some]
    simp only [show eqI 4 1 = false from rfl, show eqI 4 2 = false from rfl, show eqI 4 3 = false from rfl, show eqI 4 4 = true from rfl, cond_true, cond_false]
    rw [a1, obind_some, a2, obind_some, a3, obind_some, a4, obind_some, bif_t (inI_end b4)]
    rfl
  · rw [← hit_end]
    simp only [c1, c2, c3, c4, c0, kind4] <;> exact Iff.rfl

theorem form5 : ∃ t, fn31 5 row = some (t, ()) ∧ (t = true ↔ kindL 5 row) := by
  obtain ⟨y0, a0, b0, c0⟩ := places_begin hr
  by_cases h0 : row = []
  · refine ⟨false, ?_, ?_⟩
    · rw [fn31, a0, obind_some]
      simp only [show eqI 5 1 = false from rfl, show eqI 5 2 = false from rfl, show eqI 5 3 = false from rfl, show eqI 5 4 = false from rfl, show eqI 5 5 = true from rfl, cond_true, cond_false]
      rw [show eqS row [] = true by rw [h0]; rfl]; rfl
    · simp [kindL, h0]
  obtain ⟨y1, a1, b1, c1⟩ := places_many hr y0 b0 [88, 82] (by decide)
  obtain ⟨y2, a2, b2, c2⟩ := places_one hr y1 b1 [87] (by decide)
  obtain ⟨y3, a3, b3, c3⟩ := places_many hr y2 b2 [87, 82] (by decide)
  obtain ⟨y4, a4, b4, c4⟩ := places_or hr y1 y3 b1 b3
  refine ⟨y4.getD row.length false, ?_, ?_⟩
  · rw [fn31, a0, obind_some]
    simp only [show eqI 5 1 = false from rfl, show eqI 5 2 = false from rfl, show eqI 5 3 = false from rfl, show eqI 5 4 = false from rfl, show eqI 5 5 = true from rfl, cond_true, cond_false]
    rw [bif_f (show eqS row [] = false by simpa [eqS] using h0)]
    rw [a1, obind_some, a2, obind_some, a3, obind_some, a4, obind_some, bif_t (inI_end b4)]
    rfl
  · rw [← hit_end]
    simp only [c1, c2, c3, c4, c0, kind5]
    exact ⟨fun h => ⟨h0, ((lin_many [88, 82]).or _ _ _).2 h⟩, fun h => ((lin_many [88, 82]).or _ _ _).1 h.2⟩

theorem form8 : ∃ t, fn31 8 row = some (t, ()) ∧ (t = true ↔ kindL 8 row) := by
  obtain ⟨y0, a0, b0, c0⟩ := places_begin hr
  obtain ⟨y1, a1, b1, c1⟩ := places_one hr y0 b0 [35] (by decide)
  obtain ⟨y2, a2, b2, c2⟩ := places_or hr y0 y1 b0 b1
  obtain ⟨y3, a3, b3, c3⟩ := places_one hr y2 b2 [60] (by decide)
  obtain ⟨y4, a4, b4, c4⟩ := places_one hr y3 b3 [87] (by decide)
  refine ⟨y4.getD row.length false, ?_, ?_⟩
  · rw [fn31, a0, obind_some]
    simp only [show eqI 8 1 = false from rfl, show eqI 8 2 = false from rfl, show eqI 8 3 = false from rfl, show eqI 8 4 = false from rfl, show eqI 8 5 = false from rfl, show eqI 8 8 = true from rfl, cond_true, cond_false]
    rw [a1, obind_some, a2, obind_some, a3, obind_some, a4, obind_some, bif_t (inI_end b4)]
    rfl
  · rw [← hit_end]
    simp only [c1, c2, c3, c4, c0, kind8] <;> exact Iff.rfl

theorem form9 : ∃ t, fn31 9 row = some (t, ()) ∧ (t = true ↔ kindL 9 row) := by
  obtain ⟨y0, a0, b0, c0⟩ := places_begin hr
  obtain ⟨y1, a1, b1, c1⟩ := places_one hr y0 b0 [123] (by decide)
  obtain ⟨y2, a2, b2, c2⟩ := places_body hr y1 b1
  obtain ⟨y3, a3, b3, c3⟩ := places_one hr y2 b2 [125] (by decide)
  obtain ⟨y4, a4, b4, c4⟩ := places_many hr y3 b3 [82] (by decide)
  refine ⟨y4.getD row.length false, ?_, ?_⟩
  · rw [fn31, a0, obind_some]
    simp only [show eqI 9 1 = false from rfl, show eqI 9 2 = false from rfl, show eqI 9 3 = false from rfl, show eqI 9 4 = false from rfl, show eqI 9 5 = false from rfl, show eqI 9 8 = false from rfl, show eqI 9 9 = true from rfl, cond_true, cond_false]
    rw [a1, obind_some, a2, obind_some, a3, obind_some, a4, obind_some, bif_t (inI_end b4)]
    rfl
  · rw [← hit_end]
    simp only [c1, c2, c3, c4, c0, kind9] <;> exact Iff.rfl

theorem form10 : ∃ t, fn31 10 row = some (t, ()) ∧ (t = true ↔ kindL 10 row) := by
  obtain ⟨y0, a0, b0, c0⟩ := places_begin hr
  obtain ⟨y1, a1, b1, c1⟩ := places_one hr y0 b0 [40] (by decide)
  obtain ⟨y2, a2, b2, c2⟩ := places_body hr y1 b1
  obtain ⟨y3, a3, b3, c3⟩ := places_one hr y2 b2 [41] (by decide)
  obtain ⟨y4, a4, b4, c4⟩ := places_many hr y3 b3 [82] (by decide)
  refine ⟨y4.getD row.length false, ?_, ?_⟩
  · rw [fn31, a0, obind_some]
    simp only [show eqI 10 1 = false from rfl, show eqI 10 2 = false from rfl, show eqI 10 3 = false from rfl, show eqI 10 4 = false from rfl, show eqI 10 5 = false from rfl, show eqI 10 8 = false from rfl, show eqI 10 9 = false from rfl, show eqI 10 10 = true from rfl, cond_true, cond_false]
    rw [a1, obind_some, a2, obind_some, a3, obind_some, a4, obind_some, bif_t (inI_end b4)]
    rfl
  · rw [← hit_end]
    simp only [c1, c2, c3, c4, c0, kind10] <;> exact Iff.rfl

theorem form11 : ∃ t, fn31 11 row = some (t, ()) ∧ (t = true ↔ kindL 11 row) := by
  obtain ⟨y0, a0, b0, c0⟩ := places_begin hr
  obtain ⟨y1, a1, b1, c1⟩ := places_one hr y0 b0 [105] (by decide)
  obtain ⟨y2, a2, b2, c2⟩ := places_body hr y1 b1
  obtain ⟨y3, a3, b3, c3⟩ := places_one hr y2 b2 [116] (by decide)
  obtain ⟨y4, a4, b4, c4⟩ := places_body hr y3 b3
  obtain ⟨y5, a5, b5, c5⟩ := rep_elif hr y4 b4
  obtain ⟨y6, a6, b6, c6⟩ := places_one hr y5 b5 [108] (by decide)
  obtain ⟨y7, a7, b7, c7⟩ := places_body hr y6 b6
  obtain ⟨y8, a8, b8, c8⟩ := places_or hr y5 y7 b5 b7
  obtain ⟨y9, a9, b9, c9⟩ := places_one hr y8 b8 [102] (by decide)
  obtain ⟨y10, a10, b10, c10⟩ := places_many hr y9 b9 [82] (by decide)
  refine ⟨y10.getD row.length false, ?_, ?_⟩
  · rw [fn31, a0, obind_some]
    simp only [show eqI 11 1 = false from rfl, show eqI 11 2 = false from rfl, show eqI 11 3 = false from rfl, show eqI 11 4 = false from rfl, show eqI 11 5 = false from rfl, show eqI 11 8 = false from rfl, show eqI 11 9 = false from rfl, show eqI 11 10 = false from rfl, show eqI 11 11 = true from rfl, cond_true, cond_false]
    rw [a1, obind_some, a2, obind_some, a3, obind_some, a4, obind_some, a5, obind_some, a6, obind_some, a7, obind_some, a8, obind_some, a9, obind_some, a10, obind_some, bif_t (inI_end b10)]
    rfl
  · rw [← hit_end]
    simp only [c1, c2, c3, c4, c5, c6, c7, c8, c9, c10, c0, kind11]
    exact (((lin_one [105]).comp (lin_body.comp ((lin_one [116]).comp (lin_body.comp (lin_star lin_pc4))))).or _ _ _).symm

theorem form12 : ∃ t, fn31 12 row = some (t, ()) ∧ (t = true ↔ kindL 12 row) := by
  obtain ⟨y0, a0, b0, c0⟩ := places_begin hr
  obtain ⟨y1, a1, b1, c1⟩ := places_one hr y0 b0 [119] (by decide)
  obtain ⟨y2, a2, b2, c2⟩ := places_body hr y1 b1
  obtain ⟨y3, a3, b3, c3⟩ := places_one hr y2 b2 [100] (by decide)
  obtain ⟨y4, a4, b4, c4⟩ := places_body hr y3 b3
  obtain ⟨y5, a5, b5, c5⟩ := places_one hr y4 b4 [103] (by decide)
  obtain ⟨y6, a6, b6, c6⟩ := places_many hr y5 b5 [82] (by decide)
  refine ⟨y6.getD row.length false, ?_, ?_⟩
  · rw [fn31, a0, obind_some]
    simp only [show eqI 12 1 = false from rfl, show eqI 12 2 = false from rfl, show eqI 12 3 = false from rfl, show eqI 12 4 = false from rfl, show eqI 12 5 = false from rfl, show eqI 12 8 = false from rfl, show eqI 12 9 = false from rfl, show eqI 12 10 = false from rfl, show eqI 12 11 = false from rfl, show eqI 12 12 = true from rfl, cond_true, cond_false]
    rw [a1, obind_some, a2, obind_some, a3, obind_some, a4, obind_some, a5, obind_some, a6, obind_some, bif_t (inI_end b6)]
    rfl
  · rw [← hit_end]
    simp only [c1, c2, c3, c4, c5, c6, c0, kind12] <;> exact Iff.rfl

theorem form13 : ∃ t, fn31 13 row = some (t, ()) ∧ (t = true ↔ kindL 13 row) := by
  obtain ⟨y0, a0, b0, c0⟩ := places_begin hr
  obtain ⟨y1, a1, b1, c1⟩ := places_one hr y0 b0 [114] (by decide)
  obtain ⟨y2, a2, b2, c2⟩ := places_one hr y1 b1 [87] (by decide)
  obtain ⟨y3, a3, b3, c3⟩ := places_many hr y2 b2 [110] (by decide)
  obtain ⟨y4, a4, b4, c4⟩ := places_one hr y3 b3 [107] (by decide)
  obtain ⟨y5, a5, b5, c5⟩ := places_many hr y4 b4 [87] (by decide)
  obtain ⟨y6, a6, b6, c6⟩ := places_one hr y5 b5 [59] (by decide)
  obtain ⟨y7, a7, b7, c7⟩ := places_many hr y6 b6 [110] (by decide)
  obtain ⟨y8, a8, b8, c8⟩ := places_one hr y5 b5 [110] (by decide)
  obtain ⟨y9, a9, b9, c9⟩ := places_many hr y8 b8 [110] (by decide)
  obtain ⟨y10, a10, b10, c10⟩ := places_or hr y7 y9 b7 b9
  obtain ⟨y11, a11, b11, c11⟩ := places_one hr y2 b2 [59] (by decide)
  obtain ⟨y12, a12, b12, c12⟩ := places_many hr y11 b11 [110] (by decide)
  obtain ⟨y14, a14, b14, c14⟩ := places_or hr y12 y3 b12 b3
  obtain ⟨y15, a15, b15, c15⟩ := places_or hr y10 y14 b10 b14
  obtain ⟨y16, a16, b16, c16⟩ := places_one hr y15 b15 [100] (by decide)
  obtain ⟨y17, a17, b17, c17⟩ := places_body hr y16 b16
  obtain ⟨y18, a18, b18, c18⟩ := places_one hr y17 b17 [103] (by decide)
  obtain ⟨y19, a19, b19, c19⟩ := places_many hr y18 b18 [82] (by decide)
  refine ⟨y19.getD row.length false, ?_, ?_⟩
  · rw [fn31, a0, obind_some]
    simp only [show eqI 13 1 = false from rfl, show eqI 13 2 = false from rfl, show eqI 13 3 = false from rfl, show eqI 13 4 = false from rfl, show eqI 13 5 = false from rfl, show eqI 13 8 = false from rfl, show eqI 13 9 = false from rfl, show eqI 13 10 = false from rfl, show eqI 13 11 = false from rfl, show eqI 13 12 = false from rfl, show eqI 13 13 = true from rfl, cond_true, cond_false]
    refine (obind_eq a1).trans ?_
    refine (obind_eq a2).trans ?_
    refine (obind_eq a3).trans ?_
    refine (obind_eq a4).trans ?_
    refine (obind_eq a5).trans ?_
    refine (obind_eq a6).trans ?_
    refine (obind_eq a7).trans ?_
    refine (obind_eq a8).trans ?_
    refine (obind_eq a9).trans ?_
    refine (obind_eq a10).trans ?_
    refine (obind_eq a11).trans ?_
    refine (obind_eq a12).trans ?_
    refine (obind_eq a3).trans ?_
    refine (obind_eq a14).trans ?_
    refine (obind_eq a15).trans ?_
    refine (obind_eq a16).trans ?_
    refine (obind_eq a17).trans ?_
    refine (obind_eq a18).trans ?_
    refine (obind_eq a19).trans ?_
    exact bif_t (inI_end b19)
  · rw [← hit_end]
    simp only [c1, c2, c3, c4, c5, c6, c7, c8, c9, c10, c11, c12, c14, c15, c16, c17, c18, c19, c0, kind13]
    have L := (lin_one [114]).comp (lin_one [87])
    exact ((L.or _ _ _).trans (or_congr (L.or _ _ _) (L.or _ _ _))).symm

theorem form14 : ∃ t, fn31 14 row = some (t, ()) ∧ (t = true ↔ kindL 14 row) := by
  obtain ⟨y0, a0, b0, c0⟩ := places_begin hr
  obtain ⟨y1, a1, b1, c1⟩ := places_one hr y0 b0 [99] (by decide)
  obtain ⟨y2, a2, b2, c2⟩ := places_one hr y1 b1 [87] (by decide)
  obtain ⟨y3, a3, b3, c3⟩ := places_many hr y2 b2 [110] (by decide)
  obtain ⟨y4, a4, b4, c4⟩ := places_one hr y3 b3 [107] (by decide)
  obtain ⟨y5, a5, b5, c5⟩ := places_many hr y4 b4 [110] (by decide)
  obtain ⟨y6, a6, b6, c6⟩ := rep_item hr y5 b5
  obtain ⟨y7, a7, b7, c7⟩ := places_one hr y6 b6 [84] (by decide)
  obtain ⟨y8, a8, b8, c8⟩ := places_or hr y6 y7 b6 b7
  obtain ⟨y9, a9, b9, c9⟩ := places_one hr y8 b8 [122] (by decide)
  obtain ⟨y10, a10, b10, c10⟩ := places_many hr y9 b9 [82] (by decide)
  refine ⟨y10.getD row.length false, ?_, ?_⟩
  · rw [fn31, a0, obind_some]
    simp only [show eqI 14 1 = false from rfl, show eqI 14 2 = false from rfl, show eqI 14 3 = false from rfl, show eqI 14 4 = false from rfl, show eqI 14 5 = false from rfl, show eqI 14 8 = false from rfl, show eqI 14 9 = false from rfl, show eqI 14 10 = false from rfl, show eqI 14 11 = false from rfl, show eqI 14 12 = false from rfl, show eqI 14 13 = false from rfl, show eqI 14 14 = true from rfl, cond_true, cond_false]
    rw [a1, obind_some, a2, obind_some, a3, obind_some, a4, obind_some, a5, obind_some, a6, obind_some, a7, obind_some, a8, obind_some, a9, obind_some, a10, obind_some, bif_t (inI_end b10)]
    rfl
  · rw [← hit_end]
    simp only [c1, c2, c3, c4, c5, c6, c7, c8, c9, c10, c0, kind14]
    exact (((lin_one [99]).comp ((lin_one [87]).comp ((lin_many [110]).comp ((lin_one [107]).comp ((lin_many [110]).comp (lin_star lin_pc5)))))).or _ _ _).symm

theorem form15 : ∃ t, fn31 15 row = some (t, ()) ∧ (t = true ↔ kindL 15 row) := by
  obtain ⟨y0, a0, b0, c0⟩ := places_begin hr
  obtain ⟨y1, a1, b1, c1⟩ := places_one hr y0 b0 [40] (by decide)
  obtain ⟨y2, a2, b2, c2⟩ := places_or hr y0 y1 b0 b1
  obtain ⟨y3, a3, b3, c3⟩ := places_one hr y2 b2 [87] (by decide)
  obtain ⟨y4, a4, b4, c4⟩ := rep_word hr y3 b3
  obtain ⟨y5, a5, b5, c5⟩ := places_one hr y4 b4 [41] (by decide)
  obtain ⟨y6, a6, b6, c6⟩ := places_many hr y5 b5 [110] (by decide)
  obtain ⟨y7, a7, b7, c7⟩ := places_one hr y6 b6 [76] (by decide)
  obtain ⟨y8, a8, b8, c8⟩ := places_or hr y6 y7 b6 b7
  refine ⟨y8.getD row.length false, ?_, ?_⟩
  · rw [fn31, a0, obind_some]
    simp only [show eqI 15 1 = false from rfl, show eqI 15 2 = false from rfl, show eqI 15 3 = false from rfl, show eqI 15 4 = false from rfl, show eqI 15 5 = false from rfl, show eqI 15 8 = false from rfl, show eqI 15 9 = false from rfl, show eqI 15 10 = false from rfl, show eqI 15 11 = false from rfl, show eqI 15 12 = false from rfl, show eqI 15 13 = false from rfl, show eqI 15 14 = false from rfl, show eqI 15 15 = true from rfl, cond_true, cond_false]
    rw [a1, obind_some, a2, obind_some, a3, obind_some, a4, obind_some, a5, obind_some, a6, obind_some, a7, obind_some, a8, obind_some, bif_t (inI_end b8)]
    rfl
  · rw [← hit_end]
    simp only [c1, c2, c3, c4, c5, c6, c7, c8, c0, kind15]
    have L := (lin_one [87]).comp ((lin_star lin_pc6).comp ((lin_one [41]).comp (lin_many [110])))
    have e1 := L.or Nil (One [76] Nil) row
    have e2 := ((lin_one [40]).comp L).or Nil (One [76] Nil) row
    show _ ↔ (One [87] (Star pc6 (One [41] (Many [110] (Or Nil (One [76] Nil)))))) row ∨ One [40] (One [87] (Star pc6 (One [41] (Many [110] (Or Nil (One [76] Nil)))))) row
    rw [e1, e2]
    constructor
    · rintro ((h | h) | h | h)
      · exact .inl (.inl h)
      · exact .inr (.inl h)
      · exact .inl (.inr h)
      · exact .inr (.inr h)
    · rintro ((h | h) | h | h)
      · exact .inl (.inl h)
      · exact .inr (.inl h)
      · exact .inl (.inr h)
      · exact .inr (.inr h)

theorem form16 : ∃ t, fn31 16 row = some (t, ()) ∧ (t = true ↔ kindL 16 row) := by
  obtain ⟨y0, a0, b0, c0⟩ := places_begin hr
  obtain ⟨y1, a1, b1, c1⟩ := places_one hr y0 b0 [87] (by decide)
  obtain ⟨y2, a2, b2, c2⟩ := places_one hr y1 b1 [40] (by decide)
  obtain ⟨y3, a3, b3, c3⟩ := places_one hr y2 b2 [41] (by decide)
  obtain ⟨y4, a4, b4, c4⟩ := places_many hr y3 b3 [110] (by decide)
  obtain ⟨y5, a5, b5, c5⟩ := places_one hr y4 b4 cmpS (by decide)
  refine ⟨y5.getD row.length false, ?_, ?_⟩
  · rw [fn31, a0, obind_some]
    simp only [show eqI 16 1 = false from rfl, show eqI 16 2 = false from rfl, show eqI 16 3 = false from rfl, show eqI 16 4 = false from rfl, show eqI 16 5 = false from rfl, show eqI 16 8 = false from rfl, show eqI 16 9 = false from rfl, show eqI 16 10 = false from rfl, show eqI 16 11 = false from rfl, show eqI 16 12 = false from rfl, show eqI 16 13 = false from rfl, show eqI 16 14 = false from rfl, show eqI 16 15 = false from rfl, show eqI 16 16 = true from rfl, cond_true, cond_false]
    rw [a1, obind_some, a2, obind_some, a3, obind_some, a4, obind_some, a5, obind_some, bif_t (inI_end b5)]
    rfl
  · rw [← hit_end]
    simp only [c1, c2, c3, c4, c5, c0, kind16] <;> exact Iff.rfl

end
end Go.Proofs.Ytkloefipjbeneaa
