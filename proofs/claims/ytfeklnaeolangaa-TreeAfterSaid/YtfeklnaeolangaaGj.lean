/-
  tree.After: every node once, behind all that are below it, sisters in their order.
-/
import Derived.Test.YtfeklnaeolangaaGb
import Derived.Test.YtfeklnaeolangaaBd
namespace Go.Proofs.Ytfeklnaeolangaa
open Go.RowKit
set_option linter.unusedVariables false
set_option linter.unusedSimpArgs false

theorem nth_last {s t : List Int} {x : Int} : nthN (s.reverse ++ (x :: t)) 0 (natI (s.length : Int)) = x := by
  simp [nthN, natI, List.getD]

theorem fn16_eq (l : List Nd) : (l.length ≤ 40 ∧ Rt l (nd l 0).too ∧ fn16 l = some (true, ())) ∨ fn16 l = some (false, ()) := by
  rw [fn16]
  by_cases c1 : 0 < lenI l
  · rw [bif_t (ltI_t c1)]
    by_cases c2 : lenI l ≤ 40
    · rw [bif_t (leI_t c2)]
      rw [lenI_eq] at c1 c2
      rw [bif_t (inI_t (by omega) (by omega))]
      rcases fn12_eq (l := l) (by omega) (nd l 0).too with ⟨h1, h2⟩ | ⟨h1, h2⟩
      · exact .inl ⟨by omega, h1, by rw [h2]; rfl⟩
      · exact .inr (by rw [h2]; rfl)
    · rw [bif_f (leI_n c2)]; exact .inr rfl
  · rw [bif_f (ltI_n c1)]; exact .inr rfl

/-- p may come ahead of q -/
def Rr (l : List Nd) (p q : Int) : Prop := p ≠ q ∧ p ∉ anc l q ∧ ((nd l p).up = (nd l q).up → p ≤ q)

structure Lo (l : List Nd) (i : Int) (s : List Int) : Prop where
  pair : s.Pairwise (Rr l)
  mem : ∀ x ∈ s, 0 ≤ x ∧ x < i
  len : (s.length : Int) = i

theorem Lo.ins {l : List Nd} {n i : Int} {A B : List Int} (hu : upsOk l n) (h0 : 0 ≤ i) (hi : i < n) (h : Lo l i (A ++ B)) (hB : anc l i = i :: B) : Lo l (i + 1) (A ++ i :: B) := by
  have hB2 : B = anc l (nd l i).up := by
    have := anc_cons hu h0 hi
    rw [hB] at this
    exact (List.cons.inj this).2
  have hup := hu i h0 hi
  obtain ⟨pA, pB, pAB⟩ := List.pairwise_append.1 h.pair
  have hbnd : ∀ q ∈ B, q ≤ (nd l i).up := fun q hq => by
    rw [hB2] at hq
    exact (anc_mem hu (((nd l i).up + 1).toNat) _ q (by omega) (by omega) hq).2
  refine ⟨List.pairwise_append.2 ⟨pA, List.pairwise_cons.2 ⟨fun q hq => ?_, pB⟩, fun a ha b hb => ?_⟩, fun x hx => ?_, ?_⟩
  · have h1 := h.mem q (List.mem_append.2 (.inr hq))
    have h2 := hu q h1.1 (by omega)
    have h3 := hbnd q hq
    refine ⟨by omega, fun hm => ?_, fun e => by omega⟩
    have := (anc_mem hu ((q + 1).toNat) q i (by omega) (by omega) hm).2
    omega
  · have h1 := h.mem a (List.mem_append.2 (.inl ha))
    rcases List.mem_cons.1 hb with e | hb
    · subst e
      refine ⟨by omega, fun hm => ?_, fun _ => by omega⟩
      rw [hB] at hm
      rcases List.mem_cons.1 hm with e | hm
      · omega
      · exact (pAB a ha a hm).1 rfl
    · exact pAB a ha b hb
  · rcases List.mem_append.1 hx with hx | hx
    · have := h.mem x (List.mem_append.2 (.inl hx)); omega
    · rcases List.mem_cons.1 hx with e | hx
      · omega
      · have := h.mem x (List.mem_append.2 (.inr hx)); omega
  · have := h.len
    simp only [List.length_append, List.length_cons] at this ⊢
    omega

theorem fit8 {o : List Int} {x : Int} (h : o.length + 1 ≤ 2000) : fitI (catL o [x]) 8 = true := by
  simp only [fitI, catL, roomN, decide_eq_true_eq, List.length_append, List.length_singleton]
  omega

theorem lp20p {l : List Nd} {v0 v2 v3 a b c u : Int} : ∀ (s : List Int) (N : Nat) (o : List Int), s.length < N → s.length + o.length ≤ 1000 →
    lp20_36_4 N v0 l v2 v3 a b c u s.reverse l o = some (.inl ((v0, l, v2, v3, ()), ((), (), (), ()), ((s.dropWhile (fun x => !(x == u))).reverse, (), (l, ()), (), o ++ s.takeWhile (fun x => !(x == u)), ())))
  | s, 0, o, h, _ => by omega
  | [], N + 1, o, _, _ => by
    rw [lp20_36_4, st20_36_4, bif_f (ltI_f (a := 0) (b := lenI ([] : List Int).reverse) (by simp [lenI]))]
    simp
  | x :: s, N + 1, o, h, h2 => by
    simp only [List.length_cons] at h h2
    have el : lenI (x :: s).reverse = ((s.length : Int) + 1) := by simp [lenI]
    have es : subK .i64 ((s.length : Int) + 1) 1 = (s.length : Int) := by rw [subK_eq (by omega) (by omega)]; omega
    have ex : nthN (x :: s).reverse 0 (natI (s.length : Int)) = x := by rw [List.reverse_cons]; exact nth_last
    have hin : inI (x :: s).reverse (s.length : Int) = true := inI_t (by omega) (by simp; omega)
    have hlt : ltL (natI (s.length : Int)) (x :: s).reverse = true := ltL_t (by simp [natI])
    rw [lp20_36_4, st20_36_4, el, es, bif_t (ltI_t (by omega)), bif_t hin, bif_t hlt, ex, List.dropWhile_cons, List.takeWhile_cons]
    by_cases hx : x = u
    · rw [bif_f (by rw [eqI_t hx]; rfl), if_neg (by simpa using hx), if_neg (by simpa using hx), List.append_nil]
    · rw [bif_t (by rw [eqI_f hx]; rfl), bif_t hin, bif_t hlt, bif_t (partI_t (by omega) (by omega) (by omega)), bif_t (fit8 (by omega)), if_pos (by simpa using hx), if_pos (by simpa using hx)]
      have et : takeN (x :: s).reverse (natI (s.length : Int)) = s.reverse := by
        rw [List.reverse_cons, takeN, natI, Int.toNat_natCast, List.take_append_of_le_length (by simp)]
        exact List.take_of_length_le (by simp)
      rw [et, lp20p s N (catL o [x]) (by omega) (by simp [catL]; omega)]
      simp [catL]

theorem lp20e {l : List Nd} : ∀ (s : List Int) (N : Nat) (t o : List Int), s.length < N → s.length + o.length ≤ 1000 →
    lp20_36_11 N ((s.length : Int) - 1) (s.reverse ++ t) l o = some (.inl ((), ((), (), (), ()), ((), (l, ()), (), o ++ s, ())))
  | s, 0, t, o, h, _ => by omega
  | [], N + 1, t, o, _, _ => by
    rw [lp20_36_11, st20_36_11, bif_f (leI_f (by simp))]
    simp
  | x :: s, N + 1, t, o, h, h2 => by
    simp only [List.length_cons] at h h2
    have el : (((x :: s).length : Nat) : Int) - 1 = (s.length : Int) := by simp
    have er : (x :: s).reverse ++ t = s.reverse ++ (x :: t) := by simp
    rw [el, er, lp20_36_11, st20_36_11, bif_t (leI_t (by omega)), bif_t (inI_t (by omega) (by simp; omega)), bif_t (ltL_t (by simp [natI])), nth_last, bif_t (fit8 (by omega)), subK_eq (by omega) (by omega),
      lp20e s N (x :: t) (catL o [x]) (by omega) (by simp [catL]; omega)]
    simp [catL]

theorem lp20o {l : List Nd} (hl : l.length ≤ 40) (hok : okTo l l.length) (hup : (nd l 0).up = -1) : ∀ (N i : Nat) (o : List Int), l.length - i < N → i ≤ l.length → Lo l i (o ++ anc l ((i : Int) - 1)) →
    ∃ o', Lo l l.length (o' ++ anc l ((l.length : Int) - 1)) ∧
      lp20_36_2 N l (lenI l) i (anc l ((i : Int) - 1)).reverse l o = some (.inl ((), ((), (), (), ()), ((anc l ((l.length : Int) - 1)).reverse, (), (l, ()), (), o', ())))
  | 0, i, o, h, _, _ => by omega
  | N + 1, i, o, h, hi, hL => by
    have hups := hok.ups hup
    rw [lp20_36_2, st20_36_2]
    by_cases e : i < l.length
    · have hlen := hL.len
      simp only [List.length_append] at hlen
      have hB : anc l (i : Int) = (i : Int) :: (anc l ((i : Int) - 1)).dropWhile (fun x => !(x == (nd l i).up)) := by
        rw [anc_cons hups (by omega) (by omega), anc_drop hups (i + 1) _ _ (by omega) (by omega)]
        by_cases hz : i = 0
        · subst hz
          rw [show (nd l ((0 : Nat) : Int)).up = -1 from hup, anc_neg (by omega), anc_neg (by omega)]
          simp
        · obtain ⟨_, _, _, h3⟩ := hok i (by omega) (by omega)
          rw [if_pos (h3 (by omega)).2.2.1]
      have hL2 := Lo.ins (A := o ++ (anc l ((i : Int) - 1)).takeWhile (fun x => !(x == (nd l i).up))) (i := i) hups (by omega) (by omega)
        (by rw [List.append_assoc, List.takeWhile_append_dropWhile]; exact hL) hB
      rw [bif_t (ltI_t (b := lenI l) (by rw [lenI_eq]; omega)), bif_t (inI_t (by omega) (by omega)), lp20p _ fuelN o (big_fuel (by omega)) (by omega), obind_some]
      simp only [osum]
      have hlen2 := hL2.len
      simp only [List.length_append, List.length_cons] at hlen2
      have hfit2 : fitI (catL (List.dropWhile (fun x => !(x == (nd l (i : Int)).up)) (anc l ((i : Int) - 1))).reverse [(i : Int)]) 8 = true :=
        fit8 (by simp only [List.length_reverse]; omega)
      have hfit : fitI (catL (List.dropWhile (fun x => !(x == (getI l (0, (0, (0, (0, ())))) (i : Int)).2.2.2.1)) (anc l ((i : Int) - 1))).reverse [(i : Int)]) 8 = true := hfit2
      rw [bif_t hfit, addK_eq (by omega) (by omega)]
      have er : catL (List.dropWhile (fun x => !(x == (getI l (0, (0, (0, (0, ())))) (i : Int)).2.2.2.1)) (anc l ((i : Int) - 1))).reverse [(i : Int)] = (anc l (((i + 1 : Nat) : Int) - 1)).reverse := by
        rw [show ((i + 1 : Nat) : Int) - 1 = (i : Int) by omega, hB, List.reverse_cons]; rfl
      rw [er]
      exact lp20o hl hok hup N (i + 1) _ (by omega) (by omega) (by
        rw [show ((i + 1 : Nat) : Int) - 1 = (i : Int) by omega, hB]
        exact hL2)
    · have : i = l.length := by omega
      subst this
      rw [bif_f (ltI_f (b := lenI l) (by rw [lenI_eq]; omega))]
      exact ⟨o, hL, rfl⟩

theorem fn20_eq {l : List Nd} (hl : l.length ≤ 40) (hok : okTo l l.length) (hup : (nd l 0).up = -1) : ∃ s, Lo l l.length s ∧ fn20 l = some (s, ()) := by
  obtain ⟨o, h1, h2⟩ := lp20o hl hok hup fuelN 0 [] (big_fuel (by omega)) (by omega) ⟨by rw [anc_neg (by omega)]; exact List.Pairwise.nil, by rw [anc_neg (by omega)]; simp, by rw [anc_neg (by omega)]; simp⟩
  rw [show anc l (((0 : Nat) : Int) - 1) = [] from anc_neg (by omega)] at h2
  have hlen := h1.len
  simp only [List.length_append] at hlen
  refine ⟨_, h1, ?_⟩
  rw [fn20, show lp20_36_2 fuelN l (lenI l) 0 [] l [] = _ from h2, obind_some]
  simp only [osum]
  have h3 := lp20e (l := l) (anc l ((l.length : Int) - 1)) fuelN [] o (big_fuel (by omega)) (by omega)
  rw [List.append_nil] at h3
  rw [show lenI (anc l ((l.length : Int) - 1)).reverse = ((anc l ((l.length : Int) - 1)).length : Int) by simp [lenI], subK_eq (by omega) (by omega), h3, obind_some]

theorem lp7i {l : List Nd} (hl : l.length ≤ 40) (hups : upsOk l l.length) {o : List Int} (ho : Lo l l.length o) {i : Int} (hi : i < o.length) : ∀ (N : Nat) (k : Int), i - k < N → 0 ≤ k → k ≤ i →
    lp7_14 N l o i k = some (.inl ((l, o, i, ()), ()))
  | 0, k, h, _, _ => by omega
  | N + 1, k, h, hk, hki => by
    rw [lp7_14, st7_14]
    have hlen := ho.len
    by_cases e : k < i
    · have i1 := inI_t (l := o) hk (by omega)
      have i2 := inI_t (l := o) (i := i) (by omega) (by omega)
      have g1 : getI o 0 k = o[k.toNat]'(by omega) := getI_eq (by omega)
      have g2 : getI o 0 i = o[i.toNat]'(by omega) := getI_eq (by omega)
      have hR := List.pairwise_iff_getElem.1 ho.pair k.toNat i.toNat (by omega) (by omega) (by omega)
      have m1 := ho.mem _ (List.getElem_mem (by omega : k.toNat < o.length))
      have m2 := ho.mem _ (List.getElem_mem (by omega : i.toNat < o.length))
      rw [← g1, ← g2] at hR
      rw [← g1] at m1
      rw [← g2] at m2
      obtain ⟨r1, r2, r3⟩ := hR
      have ih := lp7i hl hups ho hi N (k + 1) (by omega) (by omega) (by omega)
      have ek : addK .i64 k 1 = k + 1 := addK_eq (by omega) (by omega)
      rw [bif_t (ltI_t e), bif_t i1, bif_t i2, bif_f (eqI_f r1), bif_t i1, bif_t i2, fn18_eq hups (Int.le_refl _) (by omega) _ _ m2.2, obind_some]
      simp only
      rw [bif_f (decide_eq_false r2), bif_t i1, bif_t (inI_t (l := l) m1.1 m1.2), bif_t i2, bif_t (inI_t (l := l) m2.1 m2.2)]
      by_cases eu : (nd l (getI o 0 k)).up = (nd l (getI o 0 i)).up
      · rw [bif_t (eqI_t eu), bif_t i1, bif_t i2, bif_f (ltI_f (r3 eu)), ek]; exact ih
      · rw [bif_f (eqI_f eu), ek]; exact ih
    · rw [bif_f (ltI_n e)]

theorem lp7o {l : List Nd} (hl : l.length ≤ 40) (hups : upsOk l l.length) {o : List Int} (ho : Lo l l.length o) : ∀ (N : Nat) (i : Int), o.length - i < N → 0 ≤ i → i ≤ o.length →
    lp7_9 N l o i = some (.inl ((), ()))
  | 0, i, h, h0, h1 => by omega
  | N + 1, i, h, h0, h1 => by
    have hlen := ho.len
    rw [lp7_9, st7_9]
    by_cases e : i < o.length
    · have i1 := inI_t (l := o) h0 e
      have g1 : getI o 0 i = o[i.toNat]'(by omega) := getI_eq (by omega)
      have m1 := ho.mem _ (List.getElem_mem (by omega : i.toNat < o.length))
      rw [← g1] at m1
      rw [bif_t (ltI_t (b := lenI o) e), bif_t i1, bif_f (ltI_f m1.1), bif_t i1, bif_f (leI_f (a := lenI l) m1.2), lp7i hl hups ho e fuelN 0 (by have := big_fuel (n := o.length + 1) (by omega); omega) (by omega) h0, obind_some]
      simp only [osum]
      rw [addK_eq (by omega) (by omega)]
      exact lp7o hl hups ho N (i + 1) (by omega) (by omega) (by omega)
    · rw [bif_f (ltI_f (b := lenI o) (by rw [lenI_eq]; omega))]

theorem law7 (x0 : List Nd) (h0 : wfD (.list (.pair (.int .i64) (.pair (.int .i64) (.pair (.int .i64) (.pair (.int .i64) .unit))))) x0) : fn7 x0 = some (true, ()) := by
  rw [fn7]
  rcases fn16_eq x0 with ⟨hl, hR, h2⟩ | h2
  · obtain ⟨hne, hup, hfr, _, hok⟩ := hR
    have hups := hok.ups hup
    obtain ⟨o, ho, h3⟩ := fn20_eq hl hok hup
    have hlen := ho.len
    rw [h2, obind_some, bif_f (by rfl), h3, obind_some]
    simp only
    have hb := big_fuel (n := o.length + 1) (by omega)
    rw [bif_f (by rw [eqI_t (show lenI o = lenI x0 from hlen)]; rfl), lp7o hl hups ho fuelN 0 (by omega) (by omega) (by omega), obind_some]
    rfl
  · rw [h2, obind_some, bif_t (by rfl)]
end Go.Proofs.Ytfeklnaeolangaa
