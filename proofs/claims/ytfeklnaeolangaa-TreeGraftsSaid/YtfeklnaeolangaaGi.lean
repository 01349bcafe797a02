/-
  TreeGrafts.
-/
import Derived.Test.YtfeklnaeolangaaGe
import Derived.Test.YtfeklnaeolangaaBd
import Derived.Test.YtfeklnaeolangaaFi
namespace Go.Proofs.Ytfeklnaeolangaa
open Go.RowKit
set_option linter.unusedVariables false
set_option linter.unusedSimpArgs false

theorem same_go {l : List Nd} (hl : l.length < 1000000000000) : ∀ (k N : Nat) (n : Nat), l.length - n < k → k < N → lp15_4 N l l (n : Int) = some (.inl ((), ()))
  | 0, N, n, h, _ => by omega
  | k + 1, 0, n, _, h => by omega
  | k + 1, N + 1, n, h1, h2 => by
    rw [lp15_4, st15_4]
    by_cases c : n < l.length
    · have hin : inI l (n : Int) = true := inI_t (by omega) (by omega)
      have ea : addK .i64 (n : Int) 1 = ((n + 1 : Nat) : Int) := by rw [addK_eq (by omega) (by omega)]; rfl
      rw [bif_t (ltI_t (b := lenI l) (by rw [lenI_eq]; omega)), bif_t hin, bif_t hin, bif_f (by simp [eqI_t]), ea]
      exact same_go hl k N (n + 1) (by omega) (by omega)
    · rw [bif_f (ltI_f (b := lenI l) (by rw [lenI_eq]; omega))]

theorem fn15_self {l : List Nd} (hl : l.length < 1000000000000) : fn15 l l = some (true, ()) := by
  have h := same_go hl (l.length + 1) fuelN 0 (by omega) (big_fuel (by omega))
  rw [fn15, bif_f (by rw [eqI_t rfl]; rfl), show lp15_4 fuelN l l 0 = _ from h]
  rfl

/-- a node that is hung on -/
def hung (l sub : List Nd) (by_ : Int) (k : Nat) : Nd :=
  ((nd sub k).1, (addK .i64 (nd sub k).2.1 by_, (addK .i64 (nd sub k).2.2.1 by_, ((if k = 0 then 0 else addK .i64 (nd sub k).2.2.2.1 (lenI l)), ()))))

theorem hang_go {l sub : List Nd} {by_ : Int} (hl : l.length ≤ 40) (hs : sub.length ≤ 40) : ∀ (k N : Nat) (n : Nat), sub.length - n < k → k < N → n ≤ sub.length →
    cl1.lp19_5 N l by_ sub (lenI sub) (n : Int) (l ++ (List.range n).map (hung l sub by_)) = some (.inl ((), (l ++ (List.range sub.length).map (hung l sub by_), ())))
  | 0, N, n, h, _, _ => by omega
  | k + 1, 0, n, _, h, _ => by omega
  | k + 1, N + 1, n, h1, h2, h3 => by
    rw [cl1.lp19_5, cl1.st19_5]
    by_cases c : n < sub.length
    · have hin : inI sub (n : Int) = true := inI_t (by omega) (by omega)
      have ea : addK .i64 (n : Int) 1 = ((n + 1 : Nat) : Int) := by rw [addK_eq (by omega) (by omega)]; rfl
      have ih := hang_go hl hs k N (n + 1) (by omega) (by omega) (by omega) (by_ := by_)
      have hpush : ∀ x : Nd, x = hung l sub by_ n → catL (l ++ (List.range n).map (hung l sub by_)) [x] = l ++ (List.range (n + 1)).map (hung l sub by_) := fun x hx => by
        rw [hx, List.range_succ]; simp [catL]
      have hfit : fitI (l ++ (List.range (n + 1)).map (hung l sub by_)) 32 = true := by
        simp only [fitI, roomN, decide_eq_true_eq, List.length_append, List.length_map, List.length_range]; omega
      rw [bif_t (ltI_t (b := lenI sub) (by rw [lenI_eq]; omega)), bif_t hin]
      by_cases c0 : n = 0
      · rw [bif_t (eqI_t (by omega)), hpush _ (by simp [hung, c0]), bif_t hfit, ea]
        exact ih
      · rw [bif_f (eqI_f (by omega)), hpush _ (by simp [hung, c0]), bif_t hfit, ea]
        exact ih
    · obtain rfl : n = sub.length := by omega
      rw [bif_f (ltI_f (b := lenI sub) (by rw [lenI_eq]; omega))]

theorem fn19_eq {l sub : List Nd} (hl : l.length ≤ 40) (hs : sub.length ≤ 40) (by_ : Int) : fn19 l sub by_ = some (if l = [] ∨ sub = [] then l else l ++ (List.range sub.length).map (hung l sub by_), ()) := by
  have hfit : fitI l 32 = true := by
    show decide (l.length * 32 ≤ 140737488355328) = true
    exact decide_eq_true (by omega)
  rw [fn19]
  cases l with
  | nil =>
    have e : cl0.fn29 [] = some ([], ()) := rfl
    simp only [List.isEmpty_nil, cond_true, cl0.fn19]
    rw [e, obind_some, bif_t (eqI_t (a := lenI ([] : List Nd)) (b := 0) rfl)]
    simp
  | cons a l =>
    have hlt : ltL 0 (a :: l) = true := ltL_t (by simp)
    have e : cl1.fn29 (a :: l) = some (a :: l, ()) := by
      unfold cl1.fn29 cloneN cloneF
      rw [hlt, hfit]; rfl
    simp only [List.isEmpty_cons, cond_false, cl1.fn19]
    rw [e, obind_some, bif_f (eqI_f (by simp [lenI]; omega))]
    cases sub with
    | nil => rw [bif_t (eqI_t (a := lenI ([] : List Nd)) (b := 0) rfl)]; simp
    | cons b sub =>
      have h := hang_go (l := a :: l) (sub := b :: sub) (by_ := by_) hl hs ((b :: sub).length + 1) fuelN 0 (by omega) (big_fuel (by simp at hs ⊢; omega)) (by omega)
      rw [bif_f (eqI_f (by simp [lenI]; omega)), show cl1.lp19_5 fuelN (a :: l) by_ (b :: sub) (lenI (b :: sub)) 0 (a :: l) = _ from (by simpa using h), obind_some]
      simp [osum]


/-! ### Sub -/
def lift (i : Int) (n : Nd) : Nd := (n.1, (n.2.1, (n.2.2.1, (subK .i64 n.2.2.2.1 i, ()))))

theorem nd_set {l : List Nd} {j k : Nat} {x : Nd} (hj : j < l.length) : nd (setI l j x) (k : Int) = if k = j then x else nd l (k : Int) := by
  simp only [nd, getI, setI, Int.toNat_natCast, List.getD, List.getElem?_set]
  by_cases c : k = j
  · subst c; simp [hj]
  · rw [if_neg (Ne.symm c), if_neg c]

theorem sub_go {i : Int} : ∀ (k N n : Nat) (out : List Nd), out.length - n < k → k < N → out.length ≤ 40 →
    ∃ r : List Nd, cl1.lp24_5 N i (out.length : Int) (n : Int) out = some (.inl ((), (r, ()))) ∧ r.length = out.length ∧ ∀ j : Nat, j < out.length → nd r (j : Int) = if n ≤ j then lift i (nd out (j : Int)) else nd out (j : Int)
  | 0, N, n, out, h, _, _ => by omega
  | k + 1, 0, n, out, _, h, _ => by omega
  | k + 1, N + 1, n, out, h1, h2, h3 => by
    rw [cl1.lp24_5, cl1.st24_5]
    by_cases c : n < out.length
    · have hin : inI out (n : Int) = true := inI_t (by omega) (by omega)
      have hlt : ltL (natI (n : Int)) out = true := ltL_t c
      have ea : addK .i64 (n : Int) 1 = ((n + 1 : Nat) : Int) := by rw [addK_eq (by omega) (by omega)]; rfl
      have hn : nthN out (0, (0, (0, (0, ())))) (natI (n : Int)) = nd out (n : Int) := rfl
      simp only [ltI_t (show (n : Int) < (out.length : Int) by omega), hin, hlt, cond_true, ea, hn]
      have hlen : (setI out (natI (n : Int)) ((nd out (n : Int)).1, ((nd out (n : Int)).2.1, ((nd out (n : Int)).2.2.1, ((subK .i64 (nd out (n : Int)).2.2.2.1 i), ()))))).length = out.length := by simp [setI]
      obtain ⟨r, r1, r2, r3⟩ := sub_go (i := i) k N (n + 1) (setI out (natI (n : Int)) ((nd out (n : Int)).1, ((nd out (n : Int)).2.1, ((nd out (n : Int)).2.2.1, ((subK .i64 (nd out (n : Int)).2.2.2.1 i), ()))))) (by omega) (by omega) (by omega)
      rw [hlen] at r1 r2 r3
      refine ⟨r, r1, r2, fun j hj => ?_⟩
      rw [r3 j hj, nd_set (show natI (n : Int) < out.length from c)]
      have hnat : natI (n : Int) = n := rfl
      rw [hnat]
      by_cases d : j = n
      · subst d
        rw [if_neg (by omega), if_pos rfl, if_pos (by omega)]; rfl
      · rw [if_neg d]
        by_cases d2 : n ≤ j
        · rw [if_pos (by omega), if_pos d2]
        · rw [if_neg (by omega), if_neg d2]
    · rw [bif_f (ltI_f (by omega))]
      exact ⟨out, rfl, rfl, fun j hj => by rw [if_neg (by omega)]⟩

theorem fn24_eq {l : List Nd} (hl : l.length ≤ 40) {i : Nat} (h1 : i < l.length) : ∃ (e : Int) (r : List Nd), endOk l i e ∧ fn23 l i = some (e, ()) ∧ fn24 l i = some (r, ()) ∧ (r.length : Int) = e - i ∧
    ∀ j : Nat, (j : Int) < e - i → nd r (j : Int) = ((nd l ((i + j : Nat) : Int)).1, ((nd l ((i + j : Nat) : Int)).2.1, ((nd l ((i + j : Nat) : Int)).2.2.1, ((if j = 0 then -1 else subK .i64 (nd l ((i + j : Nat) : Int)).2.2.2.1 i), ())))) := by
  obtain ⟨e, he, h23⟩ := fn23_eq (l := l) (by omega) (i := (i : Int)) (by omega) (by omega)
  obtain ⟨e1, e2, _, _⟩ := id he
  obtain ⟨en, rfl⟩ : ∃ en : Nat, e = en := ⟨e.toNat, by omega⟩
  have hb : sub l (i : Int) (en : Int) = (l.take en).drop i := rfl
  have hbl : ((l.take en).drop i).length = en - i := by simp; omega
  have hbn : ∀ j : Nat, j < en - i → nd ((l.take en).drop i) (j : Int) = nd l ((i + j : Nat) : Int) := fun j hj => by
    simp only [nd, getI, Int.toNat_natCast, List.getD, List.getElem?_drop]
    rw [List.getElem?_take_of_lt (by omega)]
  have hlt : ltL 0 ((l.take en).drop i) = true := ltL_t (by omega)
  have hfit : fitI ((l.take en).drop i) 32 = true := by
    show decide (((l.take en).drop i).length * 32 ≤ 140737488355328) = true
    exact decide_eq_true (by omega)
  have h29 : cl1.fn29 ((l.take en).drop i) = some ((l.take en).drop i, ()) := by
    unfold cl1.fn29 cloneN cloneF
    rw [hlt, hfit]; rfl
  obtain ⟨r, r1, r2, r3⟩ := sub_go (i := (i : Int)) (((l.take en).drop i).length + 1) fuelN 0 ((l.take en).drop i) (by omega) (big_fuel (by omega)) (by omega)
  have hr0 : 0 < r.length := by omega
  refine ⟨en, setI r (natI 0) ((nthN r (0, (0, (0, (0, ())))) (natI 0)).1, ((nthN r (0, (0, (0, (0, ())))) (natI 0)).2.1, ((nthN r (0, (0, (0, (0, ())))) (natI 0)).2.2.1, ((-1), ())))), he, h23, ?_, ?_, ?_⟩
  · rw [fn24, cl1.fn24, fn31_eq, obind_some, bif_f (by simp [h1]), h23, obind_some, bif_t (partI_t (by omega) (by omega) (by rw [lenI_eq]; omega)), hb, h29, obind_some, lenI_eq, show cl1.lp24_5 fuelN (i : Int) (((l.take en).drop i).length : Int) 0 ((l.take en).drop i) = _ from r1, obind_some]
    simp only [osum]
    rw [bif_t (inI_t (by omega) (by omega)), bif_t (ltL_t (show natI 0 < r.length from hr0))]
  · simp only [setI, List.length_set]; omega
  · intro j hj
    rw [nd_set (show natI 0 < r.length from hr0)]
    have hn0 : nthN r (0, (0, (0, (0, ())))) (natI 0) = nd r ((0 : Nat) : Int) := rfl
    have hz : natI 0 = 0 := rfl
    have q := r3 j (by omega)
    rw [if_pos (Nat.zero_le _), hbn j (by omega)] at q
    rw [hz]
    by_cases d : j = 0
    · subst d
      have hn1 : nthN r (0, (0, (0, (0, ())))) 0 = nd r ((0 : Nat) : Int) := rfl
      rw [if_pos rfl, if_pos rfl, hn1, q]; rfl
    · rw [if_neg d, if_neg d, q]; rfl

theorem check_go {l r : List Nd} (hl : l.length ≤ 40) {i : Nat} {e : Int} (he : e ≤ l.length) (hr : (r.length : Int) = e - i) (hrow : ∀ j : Nat, (j : Int) < e - i → nd r (j : Int) = ((nd l ((i + j : Nat) : Int)).1, ((nd l ((i + j : Nat) : Int)).2.1, ((nd l ((i + j : Nat) : Int)).2.2.1, ((if j = 0 then -1 else subK .i64 (nd l ((i + j : Nat) : Int)).2.2.2.1 i), ()))))) :
    ∀ (k N n : Nat), r.length - n < k → k < N → lp9_13 N l i r (n : Int) = some (.inl ((l, ()), ()))
  | 0, N, n, h, _ => by omega
  | k + 1, 0, n, _, h => by omega
  | k + 1, N + 1, n, h1, h2 => by
    rw [lp9_13, st9_13]
    by_cases c : n < r.length
    · have ea : addK .i64 (n : Int) 1 = ((n + 1 : Nat) : Int) := by rw [addK_eq (by omega) (by omega)]; rfl
      have ei : addK .i64 (i : Int) (n : Int) = ((i + n : Nat) : Int) := by rw [addK_eq (by omega) (by omega)]; rfl
      have hin : inI r (n : Int) = true := inI_t (by omega) (by omega)
      have hin2 : inI l ((i + n : Nat) : Int) = true := inI_t (by omega) (by omega)
      have hg : getI r (0, (0, (0, (0, ())))) (n : Int) = _ := hrow n (by omega)
      have ih := check_go hl he hr hrow k N (n + 1) (by omega) (by omega)
      rw [bif_t (ltI_t (b := lenI r) (by rw [lenI_eq]; omega)), ei, bif_t hin2, hg, ea]
      by_cases c0 : n = 0
      · rw [bif_t (eqI_t (by omega)), bif_t hin, bif_f]
        · exact ih
        · simp [c0, eqI_t]
      · rw [bif_f (eqI_f (by omega)), bif_t hin, bif_f]
        · exact ih
        · simp [c0, eqI_t]
    · rw [bif_f (ltI_f (b := lenI r) (by rw [lenI_eq]; omega))]

theorem i64_of {x : Int} (h : (Lit.int .i64 x).wf = true) : -9223372036854775808 ≤ x ∧ x ≤ 9223372036854775807 := by
  simp [Lit.wf, IntKind.min, IntKind.max, IntKind.signed, IntKind.bits] at h; omega

theorem again_go {l : List Nd} (hl : l.length ≤ 40) (hok : okTo l l.length) (hup : (nd l 0).up = -1) (hw : ∀ j : Nat, j < l.length → (-9223372036854775808 ≤ (nd l (j : Int)).2.1 ∧ (nd l (j : Int)).2.1 ≤ 9223372036854775807) ∧ -9223372036854775808 ≤ (nd l (j : Int)).2.2.1 ∧ (nd l (j : Int)).2.2.1 ≤ 9223372036854775807) :
    ∀ (k N n m : Nat), l.length - n < k → k < N → 1 ≤ n → n ≤ m → m ≤ l.length → (∀ j : Nat, n ≤ j → j < m → (nd l (j : Int)).up ≠ 0) → (m < l.length → (nd l (m : Int)).up = 0) →
      lp9_23 N l (l.take m) (n : Int) = some (.inl ((l, l, ()), ()))
  | 0, N, n, m, h, _, _, _, _, _, _ => by omega
  | k + 1, 0, n, m, _, h, _, _, _, _, _ => by omega
  | k + 1, N + 1, n, m, h1, h2, h3, h4, h5, h6, h7 => by
    have hups := hok.ups hup
    rw [lp9_23, st9_23]
    by_cases c : n < l.length
    · have hin : inI l (n : Int) = true := inI_t (by omega) (by omega)
      have ea : addK .i64 (n : Int) 1 = ((n + 1 : Nat) : Int) := by rw [addK_eq (by omega) (by omega)]; rfl
      rw [bif_t (ltI_t (b := lenI l) (by rw [lenI_eq]; omega)), bif_t hin, ea]
      by_cases c0 : (nd l (n : Int)).up = 0
      · obtain rfl : m = n := by
          rcases Nat.lt_or_ge n m with q | q
          · exact absurd c0 (h6 n (Nat.le_refl _) q)
          · omega
        obtain ⟨e, r, he, _, h24, hrl, hrow⟩ := fn24_eq hl c
        obtain ⟨e1, e2, e3, e4⟩ := id he
        obtain ⟨en, rfl⟩ : ∃ en : Nat, e = en := ⟨e.toNat, by omega⟩
        have hal : (l.take m).length = m := by simp; omega
        rw [bif_t (eqI_t c0), h24, obind_some, fn19_eq (l := l.take m) (sub := r) (by omega) (by omega) 0, obind_some]
        have hne : ¬ (l.take m = [] ∨ r = []) := by
          rintro (q | q)
          · rw [q] at hal; simp at hal; omega
          · rw [q] at hrl; simp at hrl; omega
        rw [if_neg hne]
        have hnew : l.take m ++ (List.range r.length).map (hung (l.take m) r 0) = l.take en := by
          have hsplit : l.take en = l.take m ++ (l.drop m).take (en - m) := by
            rw [← List.take_add]
            congr 1; omega
          rw [hsplit]
          congr 1
          apply List.ext_getElem (by simp; omega)
          intro j ja jb
          have hj : j < r.length := by simpa using ja
          have hjj := hrow j (by omega)
          have hel : (l.drop m).take (en - m) = (l.drop m).take (en - m) := rfl
          have hget : nd l ((m + j : Nat) : Int) = l[m + j]'(by omega) := by
            simp only [nd, getI, Int.toNat_natCast, List.getD]
            rw [List.getElem?_eq_getElem (by omega)]; rfl
          simp only [List.getElem_map, List.getElem_range, List.getElem_take, List.getElem_drop]
          rw [← hget]
          obtain ⟨⟨w1, w2⟩, w3, w4⟩ := hw (m + j) (by omega)
          simp only [hung]
          rw [hjj]
          simp only
          have ha1 : addK .i64 (nd l ((m + j : Nat) : Int)).2.1 0 = (nd l ((m + j : Nat) : Int)).2.1 := by rw [addK_eq (by omega) (by omega), Int.add_zero]
          have ha2 : addK .i64 (nd l ((m + j : Nat) : Int)).2.2.1 0 = (nd l ((m + j : Nat) : Int)).2.2.1 := by rw [addK_eq (by omega) (by omega), Int.add_zero]
          rw [ha1, ha2]
          have hupj : (if j = 0 then (0 : Int) else addK .i64 (if j = 0 then -1 else subK .i64 (nd l ((m + j : Nat) : Int)).2.2.2.1 (m : Int)) (lenI (l.take m))) = (nd l ((m + j : Nat) : Int)).2.2.2.1 := by
            by_cases d : j = 0
            · subst d; rw [if_pos rfl]; exact c0.symm
            · rw [if_neg d, if_neg d, lenI_eq, hal]
              have q1 := e3 ((m + j : Nat) : Int) (by omega) (by omega)
              have q2 := hups ((m + j : Nat) : Int) (by omega) (by omega)
              have q3 : (nd l ((m + j : Nat) : Int)).up = (nd l ((m + j : Nat) : Int)).2.2.2.1 := rfl
              rw [subK_eq (by omega) (by omega), addK_eq (by omega) (by omega)]
              omega
          rw [hupj]
        rw [hnew]
        refine again_go hl hok hup hw k N (m + 1) en (by omega) (by omega) (by omega) (by omega) (by omega) (fun j a b => ?_) (fun q => ?_)
        · have := e3 (j : Int) (by omega) (by omega)
          omega
        · have q1 := e4 (by omega)
          obtain ⟨_, _, _, q2⟩ := hok (en : Int) (by omega) (by omega)
          obtain ⟨q3, q4, q5, _⟩ := q2 (by omega)
          have q6 := anc_between hok hup l.length ((en : Int) - 1) _ (m : Int) (by omega) (by omega) q5 (by omega) (by omega)
          rw [anc_cons hups (by omega) (by omega)] at q6
          rcases List.mem_cons.1 q6 with q7 | q7
          · omega
          · have hz : (nd l (m : Int)).up = 0 := c0
            rw [hz, anc_cons hups (by omega) (by omega), hup, anc_neg (by omega)] at q7
            simpa using q7
      · rw [bif_f (eqI_f c0)]
        have hm : n < m := by
          rcases Nat.lt_or_ge n m with q | q
          · exact q
          · obtain rfl : m = n := by omega
            exact absurd (h7 c) c0
        exact again_go hl hok hup hw k N (n + 1) m (by omega) (by omega) (by omega) (by omega) h5 (fun j a b => h6 j (by omega) b) h7
    · rw [bif_f (ltI_f (b := lenI l) (by rw [lenI_eq]; omega)), List.take_of_length_le (by omega)]

theorem law9 (x0 : List Nd) (x1 : Int) (h0 : wfD (.list NdT) x0) (h1 : wfD (.int .i64) x1) : fn9 x0 x1 = some (true, ()) := by
  rw [fn9]
  rcases fn16_eq x0 with ⟨hl, hR, h2⟩ | h2
  · rw [h2, obind_some, bif_f (by rfl)]
    obtain ⟨hne, hup, hfr, _, hok⟩ := hR
    have hpos : 0 < x0.length := List.length_pos_iff.2 hne
    have hups := hok.ups hup
    have hin : inI x0 0 = true := inI_t (by omega) (by omega)
    have hw : ∀ j : Nat, j < x0.length → (-9223372036854775808 ≤ (nd x0 (j : Int)).2.1 ∧ (nd x0 (j : Int)).2.1 ≤ 9223372036854775807) ∧ -9223372036854775808 ≤ (nd x0 (j : Int)).2.2.1 ∧ (nd x0 (j : Int)).2.2.1 ≤ 9223372036854775807 := fun j hj => by
      have hm : nd x0 (j : Int) ∈ x0 := by
        simp only [nd, getI, Int.toNat_natCast, List.getD]
        rw [List.getElem?_eq_getElem hj]
        exact List.getElem_mem hj
      have := h0.2 _ hm
      exact ⟨i64_of this.2.1, i64_of this.2.2.1⟩
    have ht : [getI x0 (0, (0, (0, (0, ())))) 0] = x0.take 1 := by
      cases x0 with
      | nil => exact absurd rfl hne
      | cons a l => simp [getI]
    have hag : lp9_23 fuelN x0 [getI x0 (0, (0, (0, (0, ())))) 0] 1 = some (.inl ((x0, x0, ()), ())) := by
      rw [ht]
      refine again_go hl hok hup hw (x0.length + 1) fuelN 1 1 (by omega) (big_fuel (by omega)) (by omega) (by omega) (by omega) (fun j a b => by omega) fun q => ?_
      have := hups 1 (by omega) (by omega)
      obtain ⟨_, _, _, q2⟩ := hok 1 (by omega) (by omega)
      obtain ⟨q3, q4, _⟩ := q2 (by omega)
      exact Int.le_antisymm (by have : (nd x0 ((1 : Nat) : Int)).up < 1 := q4; omega) q3
    have hself := fn15_self (l := x0) (by omega)
    by_cases c : 0 ≤ x1 ∧ x1 < x0.length
    · obtain ⟨i, rfl⟩ : ∃ i : Nat, x1 = i := ⟨x1.toNat, by omega⟩
      obtain ⟨e, r, he, h23, h24, hrl, hrow⟩ := fn24_eq hl (i := i) (by omega)
      have e2 := he.2.1
      have hlen : lenI r = subK .i64 e (i : Int) := by rw [lenI_eq, subK_eq (by have := he.1; omega) (by have := he.1; omega)]; exact hrl
      rw [h24, obind_some, bif_f (ltI_f (by omega)), bif_f (leI_f (by rw [lenI_eq]; omega)), h23, obind_some, bif_f (by rw [eqI_t hlen]; rfl)]
      rw [show lp9_13 fuelN x0 (i : Int) r 0 = _ from check_go hl e2 hrl hrow (r.length + 1) fuelN 0 (by omega) (big_fuel (by have := he.1; omega)), obind_some]
      simp only [osum]
      rw [bif_t hin, hag, obind_some]
      simp only [osum]
      rw [hself]; rfl
    · have h24 : fn24 x0 x1 = some ([], ()) := by rw [fn24, cl1.fn24, fn31_eq, obind_some, bif_t (by simp [c])]
      have hz : eqI (lenI ([] : List Nd)) 0 = true := rfl
      rw [h24, obind_some]
      simp only [hz, Bool.not_true, cond_false]
      by_cases c1 : x1 < 0
      · rw [bif_t (ltI_t c1), bif_t hin, hag, obind_some]
        simp only [osum]
        rw [hself]; rfl
      · rw [bif_f (ltI_n c1), bif_t (leI_t (by rw [lenI_eq]; omega)), bif_t hin, hag, obind_some]
        simp only [osum]
        rw [hself]; rfl
  · rw [h2]; rfl
end Go.Proofs.Ytfeklnaeolangaa
