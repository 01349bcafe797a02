/-
  TreeHangs.
-/
import Derived.Test.YtfeklnaeolangaaGa
import Derived.Test.YtfeklnaeolangaaBd
import Derived.Test.YtfeklnaeolangaaFe
namespace Go.Proofs.Ytfeklnaeolangaa
open Go.RowKit
set_option linter.unusedVariables false
set_option linter.unusedSimpArgs false

theorem same_go {l : List Nd} (hl : l.length < 1000000000000) : ∀ (k N : Nat) (n : Nat), l.length - n < k → k < N → lp15_4 N l l (n : Int) = some (.inl ((), ()))
  | 0, N, n, h, _ => by omega
  | k + 1, 0, n, _, h => by omega
  | k + 1, N + 1, n, h1, h2 => by
    rw [lp15_4, st15_4]
    by_cases c : n < l.length
    · have hin : inI l (n : Int) = true := inI_t (by omega) (by omega)
      have ea : addK .i64 (n : Int) 1 = ((n + 1 : Nat) : Int) := by rw [addK_eq (by omega) (by omega)]; rfl
      rw [bif_t (ltI_t (b := lenI l) (by rw [lenI_eq]; omega)), bif_t hin, bif_t hin, bif_f (by simp [eqI_t]), ea]
      exact same_go hl k N (n + 1) (by omega) (by omega)
    · rw [bif_f (ltI_f (b := lenI l) (by rw [lenI_eq]; omega))]

theorem fn15_self {l : List Nd} (hl : l.length < 1000000000000) : fn15 l l = some (true, ()) := by
  have h := same_go hl (l.length + 1) fuelN 0 (by omega) (big_fuel (by omega))
  rw [fn15, bif_f (by rw [eqI_t rfl]; rfl), show lp15_4 fuelN l l 0 = _ from h]
  rfl

/-- a node that is hung on -/
def hung (l sub : List Nd) (by_ : Int) (k : Nat) : Nd :=
  ((nd sub k).1, (addK .i64 (nd sub k).2.1 by_, (addK .i64 (nd sub k).2.2.1 by_, ((if k = 0 then 0 else addK .i64 (nd sub k).2.2.2.1 (lenI l)), ()))))

theorem hang_go {l sub : List Nd} {by_ : Int} (hl : l.length ≤ 40) (hs : sub.length ≤ 40) : ∀ (k N : Nat) (n : Nat), sub.length - n < k → k < N → n ≤ sub.length →
    cl1.lp19_5 N l by_ sub (lenI sub) (n : Int) (l ++ (List.range n).map (hung l sub by_)) = some (.inl ((), (l ++ (List.range sub.length).map (hung l sub by_), ())))
  | 0, N, n, h, _, _ => by omega
  | k + 1, 0, n, _, h, _ => by omega
  | k + 1, N + 1, n, h1, h2, h3 => by
    rw [cl1.lp19_5, cl1.st19_5]
    by_cases c : n < sub.length
    · have hin : inI sub (n : Int) = true := inI_t (by omega) (by omega)
      have ea : addK .i64 (n : Int) 1 = ((n + 1 : Nat) : Int) := by rw [addK_eq (by omega) (by omega)]; rfl
      have ih := hang_go hl hs k N (n + 1) (by omega) (by omega) (by omega) (by_ := by_)
      have hpush : ∀ x : Nd, x = hung l sub by_ n → catL (l ++ (List.range n).map (hung l sub by_)) [x] = l ++ (List.range (n + 1)).map (hung l sub by_) := fun x hx => by
        rw [hx, List.range_succ]; simp [catL]
      have hfit : fitI (l ++ (List.range (n + 1)).map (hung l sub by_)) 32 = true := by
        simp only [fitI, roomN, decide_eq_true_eq, List.length_append, List.length_map, List.length_range]; omega
      rw [bif_t (ltI_t (b := lenI sub) (by rw [lenI_eq]; omega)), bif_t hin]
      by_cases c0 : n = 0
      · rw [bif_t (eqI_t (by omega)), hpush _ (by simp [hung, c0]), bif_t hfit, ea]
        exact ih
      · rw [bif_f (eqI_f (by omega)), hpush _ (by simp [hung, c0]), bif_t hfit, ea]
        exact ih
    · obtain rfl : n = sub.length := by omega
      rw [bif_f (ltI_f (b := lenI sub) (by rw [lenI_eq]; omega))]

theorem fn19_eq {l sub : List Nd} (hl : l.length ≤ 40) (hs : sub.length ≤ 40) (by_ : Int) : fn19 l sub by_ = some (if l = [] ∨ sub = [] then l else l ++ (List.range sub.length).map (hung l sub by_), ()) := by
  have hfit : fitI l 32 = true := by
    show decide (l.length * 32 ≤ 140737488355328) = true
    exact decide_eq_true (by omega)
  rw [fn19]
  cases l with
  | nil =>
    have e : cl0.fn29 [] = some ([], ()) := rfl
    simp only [List.isEmpty_nil, cond_true, cl0.fn19]
    rw [e, obind_some, bif_t (eqI_t (a := lenI ([] : List Nd)) (b := 0) rfl)]
    simp
  | cons a l =>
    have hlt : ltL 0 (a :: l) = true := ltL_t (by simp)
    have e : cl1.fn29 (a :: l) = some (a :: l, ()) := by
      unfold cl1.fn29 cloneN cloneF
      rw [hlt, hfit]; rfl
    simp only [List.isEmpty_cons, cond_false, cl1.fn19]
    rw [e, obind_some, bif_f (eqI_f (by simp [lenI]; omega))]
    cases sub with
    | nil => rw [bif_t (eqI_t (a := lenI ([] : List Nd)) (b := 0) rfl)]; simp
    | cons b sub =>
      have h := hang_go (l := a :: l) (sub := b :: sub) (by_ := by_) hl hs ((b :: sub).length + 1) fuelN 0 (by omega) (big_fuel (by simp at hs ⊢; omega)) (by omega)
      rw [bif_f (eqI_f (by simp [lenI]; omega)), show cl1.lp19_5 fuelN (a :: l) by_ (b :: sub) (lenI (b :: sub)) 0 (a :: l) = _ from (by simpa using h), obind_some]
      simp [osum]

theorem bounds_go {l sub : List Nd} {by_ : Int} (hs : sub.length ≤ 40) : ∀ (k N : Nat) (n : Nat), sub.length - n < k → k < N →
    lp6_6 N l sub by_ sub (lenI sub) (n : Int) = some (.inl ((l, sub, by_, ()), ())) ∨ lp6_6 N l sub by_ sub (lenI sub) (n : Int) = some (.inr ((true, ()), ()))
  | 0, N, n, h, _ => by omega
  | k + 1, 0, n, _, h => by omega
  | k + 1, N + 1, n, h1, h2 => by
    rw [lp6_6, st6_6]
    by_cases c : n < sub.length
    · have hin : inI sub (n : Int) = true := inI_t (by omega) (by omega)
      have ea : addK .i64 (n : Int) 1 = ((n + 1 : Nat) : Int) := by rw [addK_eq (by omega) (by omega)]; rfl
      have ih := bounds_go (l := l) (by_ := by_) hs k N (n + 1) (by omega) (by omega)
      rw [bif_t (ltI_t (b := lenI sub) (by rw [lenI_eq]; omega)), bif_t hin, ea]
      cases ltI 2147483648 (maxI (maxI (getI sub (0, (0, (0, (0, ())))) (n : Int)).2.1 (getI sub (0, (0, (0, (0, ())))) (n : Int)).2.2.1) (getI sub (0, (0, (0, (0, ())))) (n : Int)).2.2.2.1) with
      | true => exact .inr rfl
      | false =>
        simp only [cond_false]
        cases ltI (minI (minI (getI sub (0, (0, (0, (0, ())))) (n : Int)).2.1 (getI sub (0, (0, (0, (0, ())))) (n : Int)).2.2.1) (getI sub (0, (0, (0, (0, ())))) (n : Int)).2.2.2.1) (-2147483648) with
        | true => exact .inr rfl
        | false => exact ih
    · rw [bif_f (ltI_f (b := lenI sub) (by rw [lenI_eq]; omega))]
      exact .inl rfl

theorem each_go {l sub : List Nd} {by_ : Int} (hl : l.length ≤ 40) (hs : sub.length ≤ 40) : ∀ (k N : Nat) (n : Nat), sub.length - n < k → k < N →
    lp6_17 N l sub by_ (l ++ (List.range sub.length).map (hung l sub by_)) (n : Int) = some (.inl ((), ()))
  | 0, N, n, h, _ => by omega
  | k + 1, 0, n, _, h => by omega
  | k + 1, N + 1, n, h1, h2 => by
    rw [lp6_17, st6_17]
    by_cases c : n < sub.length
    · have hin : inI sub (n : Int) = true := inI_t (by omega) (by omega)
      have ea : addK .i64 (n : Int) 1 = ((n + 1 : Nat) : Int) := by rw [addK_eq (by omega) (by omega)]; rfl
      have ei : addK .i64 (lenI l) (n : Int) = ((l.length + n : Nat) : Int) := by rw [lenI_eq, addK_eq (by omega) (by omega)]; rfl
      have hin2 : inI (l ++ (List.range sub.length).map (hung l sub by_)) ((l.length + n : Nat) : Int) = true := inI_t (by omega) (by simp; omega)
      have hg : getI (l ++ (List.range sub.length).map (hung l sub by_)) (0, (0, (0, (0, ())))) ((l.length + n : Nat) : Int) = hung l sub by_ n := by
        simp only [getI, Int.toNat_natCast, List.getD]
        rw [List.getElem?_append_right (by omega)]
        simp [c]
      have ih := each_go (by_ := by_) hl hs k N (n + 1) (by omega) (by omega)
      rw [bif_t (ltI_t (b := lenI sub) (by rw [lenI_eq]; omega)), bif_t hin, ei, hg, ea]
      by_cases c0 : n = 0
      · rw [bif_t (eqI_t (by omega)), bif_t hin2, bif_f]
        · exact ih
        · simp [hung, c0, eqI_t]
      · rw [bif_f (eqI_f (by omega)), bif_t hin2, bif_f]
        · exact ih
        · simp [hung, c0, eqI_t]
    · rw [bif_f (ltI_f (b := lenI sub) (by rw [lenI_eq]; omega))]

theorem law6 (x0 x1 : List Nd) (x2 : Int) (h0 : wfD (.list NdT) x0) (h1 : wfD (.list NdT) x1) (h2 : wfD (.int .i64) x2) : fn6 x0 x1 x2 = some (true, ()) := by
  rw [fn6]
  by_cases c1 : 40 < lenI x0
  · rw [bif_t (ltI_t c1)]
  rw [bif_f (ltI_n c1)]
  by_cases c2 : 40 < lenI x1
  · rw [bif_t (ltI_t c2)]
  rw [bif_f (ltI_n c2)]
  by_cases c3 : x2 < -1000000
  · rw [bif_t (ltI_t c3)]
  rw [bif_f (ltI_n c3)]
  by_cases c4 : 1000000 < x2
  · rw [bif_t (ltI_t c4)]
  rw [bif_f (ltI_n c4)]
  rw [lenI_eq] at c1 c2
  have hl : x0.length ≤ 40 := by omega
  have hs : x1.length ≤ 40 := by omega
  rcases bounds_go (l := x0) (sub := x1) (by_ := x2) hs (x1.length + 1) fuelN 0 (by omega) (big_fuel (by omega)) with hb | hb
  · rw [show lp6_6 fuelN x0 x1 x2 x1 (lenI x1) 0 = _ from hb, obind_some]
    simp only [osum]
    rw [fn19_eq hl hs, obind_some]
    have hself := fn15_self (l := x0) (by omega)
    by_cases d0 : x0 = []
    · rw [if_pos (.inl d0), bif_t (eqI_t (by rw [d0]; rfl)), hself, obind_some]
    · have p0 : 0 < x0.length := List.length_pos_iff.2 d0
      rw [bif_f (eqI_f (by rw [lenI_eq]; omega))]
      by_cases d1 : x1 = []
      · rw [if_pos (.inr d1), bif_t (eqI_t (by rw [d1]; rfl)), hself, obind_some]
      · have p1 : 0 < x1.length := List.length_pos_iff.2 d1
        have hlen : lenI (x0 ++ (List.range x1.length).map (hung x0 x1 x2)) = addK .i64 (lenI x0) (lenI x1) := by
          rw [lenI_eq, lenI_eq, lenI_eq, addK_eq (by omega) (by omega)]; simp
        have hsub : sub (x0 ++ (List.range x1.length).map (hung x0 x1 x2)) 0 (lenI x0) = x0 := by
          simp [sub, lenI]
        have he := each_go (l := x0) (sub := x1) (by_ := x2) hl hs (x1.length + 1) fuelN 0 (by omega) (big_fuel (by omega))
        rw [if_neg (by rintro (h | h); exact d0 h; exact d1 h), bif_f (eqI_f (by rw [lenI_eq]; omega)), bif_f (by rw [eqI_t hlen]; rfl), bif_t (partI_t (by omega) (by rw [lenI_eq]; omega) (by rw [lenI_eq, lenI_eq]; simp; omega)), hsub, hself, obind_some, bif_f (by rfl), show lp6_17 fuelN x0 x1 x2 (x0 ++ (List.range x1.length).map (hung x0 x1 x2)) 0 = _ from he]
        rfl
  · rw [show lp6_6 fuelN x0 x1 x2 x1 (lenI x1) 0 = _ from hb]; rfl
end Go.Proofs.Ytfeklnaeolangaa
