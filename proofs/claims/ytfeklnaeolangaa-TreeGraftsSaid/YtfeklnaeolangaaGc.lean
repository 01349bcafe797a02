/-
  tree.Check tells right trees.
-/
import Derived.Test.YtfeklnaeolangaaGb
import Derived.Test.YtfeklnaeolangaaBd
namespace Go.Proofs.Ytfeklnaeolangaa
open Go.RowKit
set_option linter.unusedVariables false
set_option linter.unusedSimpArgs false

theorem nth_last {s : List Int} {x : Int} : nthN (s.reverse ++ [x]) 0 (natI (s.length : Int)) = x := by
  simp [nthN, natI, List.getD]

theorem lp11p {l : List Nd} {i c f t u : Int} {e : List Int} : ∀ (s : List Int) (N : Nat), s.length < N → s.length < 1000000000000 →
    lp11_9 N l i c f t u e s.reverse = some (.inl ((l, i, ()), (c, f, t, u, ()), e, (s.dropWhile (fun x => !(x == u))).reverse, ()))
  | s, 0, h, _ => by omega
  | [], N + 1, _, _ => by
    rw [lp11_9, st11_9, bif_f (ltI_f (a := 0) (b := lenI ([] : List Int).reverse) (by simp [lenI]))]
    rfl
  | x :: s, N + 1, h, h2 => by
    simp only [List.length_cons] at h h2
    have el : lenI (x :: s).reverse = ((s.length : Int) + 1) := by simp [lenI]
    have es : subK .i64 ((s.length : Int) + 1) 1 = (s.length : Int) := by rw [subK_eq (by omega) (by omega)]; omega
    have ex : nthN (x :: s).reverse 0 (natI (s.length : Int)) = x := by rw [List.reverse_cons]; exact nth_last
    rw [lp11_9, st11_9, el, es, bif_t (ltI_t (by omega)), bif_t (inI_t (by omega) (by simp; omega)), bif_t (ltL_t (by simp [natI])), ex, List.dropWhile_cons]
    by_cases hx : x = u
    · rw [bif_f (by rw [eqI_t hx]; rfl), if_neg (by simpa using hx)]
    · rw [bif_t (by rw [eqI_f hx]; rfl), bif_t (partI_t (by omega) (by omega) (by omega)), if_pos (by simpa using hx)]
      have et : takeN (x :: s).reverse (natI (s.length : Int)) = s.reverse := by
        rw [List.reverse_cons, takeN, natI, Int.toNat_natCast, List.take_append_of_le_length (by simp)]
        exact List.take_of_length_le (by simp)
      rw [et]
      exact lp11p s N (by omega) (by omega)

/-- where the last kid of a node ends, of those ahead of a node -/
def lastTo (l : List Nd) : Nat → Int → Int
  | 0, _ => 0
  | i + 1, u => if 1 ≤ i ∧ (nd l (i : Int)).up = u then (nd l (i : Int)).too else lastTo l i u

theorem lastTo_ge {l : List Nd} : ∀ (i : Nat) (u k : Int), okTo l i → 1 ≤ k → k < i → (nd l k).up = u → (nd l k).too ≤ lastTo l i u
  | 0, u, k, _, h1, h2, _ => by omega
  | i + 1, u, k, h, h1, h2, h3 => by
    simp only [lastTo]
    by_cases c : 1 ≤ i ∧ (nd l (i : Int)).up = u
    · rw [if_pos c]
      by_cases e : k = i
      · subst e; omega
      · obtain ⟨_, _, h5, h4⟩ := h i (by omega) (by omega)
        obtain ⟨_, _, _, _, _, h6⟩ := h4 (by omega)
        have := h6 k h1 (by omega) (by rw [h3, c.2])
        omega
    · rw [if_neg c]
      have e : k ≠ i := fun e => c ⟨by omega, by rw [← e]; exact h3⟩
      exact lastTo_ge i u k (fun j a b => h j a (by omega)) h1 (by omega) h3

theorem lastTo_is {l : List Nd} : ∀ (i : Nat) (u : Int), lastTo l i u = 0 ∨ ∃ k : Int, 1 ≤ k ∧ k < i ∧ (nd l k).up = u ∧ lastTo l i u = (nd l k).too
  | 0, u => .inl rfl
  | i + 1, u => by
    simp only [lastTo]
    by_cases c : 1 ≤ i ∧ (nd l (i : Int)).up = u
    · rw [if_pos c]; exact .inr ⟨i, by omega, by omega, c.2, rfl⟩
    · rw [if_neg c]
      rcases lastTo_is i u with h | ⟨k, h1, h2, h3, h4⟩
      · exact .inl h
      · exact .inr ⟨k, h1, by omega, h3, h4⟩

/-- the ends that Check keeps -/
def endsOk (l : List Nd) (i : Nat) (e : List Int) : Prop := e.length = l.length ∧ ∀ u : Nat, u < l.length → e.getD u 0 = lastTo l i (u : Int)

theorem endsOk.set {l : List Nd} {i : Nat} {e : List Int} (h : endsOk l i e) (h1 : 1 ≤ i) {u : Nat} (hu : (nd l (i : Int)).up = (u : Int)) (hul : u < l.length) : endsOk l (i + 1) (setI e u (nd l (i : Int)).too) := by
  refine ⟨by simp [setI, h.1], fun w hw => ?_⟩
  simp only [lastTo, setI]
  by_cases c : w = u
  · subst c
    rw [if_pos ⟨h1, hu⟩]
    simp [List.getD, h.1, hul]
  · rw [if_neg (fun h' => c (by have := h'.2; omega)), ← h.2 w hw]
    simp [List.getD, List.getElem?_set, Ne.symm c]

theorem key11 {l : List Nd} {i : Nat} (h1 : 1 ≤ i) (hi : i < l.length) (hl : l.length < 1000000000000) (hup : (nd l 0).up = -1) (hfr : (nd l 0).fro = 0) (hok : okTo l i) {e : List Int} (he : endsOk l i e) (N : Nat) :
    (okAt l i ∧ ∃ e', endsOk l (i + 1) e' ∧ lp11_6 (N + 1) l i e (anc l (i - 1)).reverse = lp11_6 N l (i + 1 : Nat) e' (anc l i).reverse) ∨
    (¬ okAt l i ∧ lp11_6 (N + 1) l i e (anc l (i - 1)).reverse = some (.inr ((false, ()), ()))) := by
  have hups := hok.ups hup
  have hin : inI l (i : Int) = true := inI_t (by omega) (by omega)
  have ea : addK .i64 (i : Int) 1 = ((i + 1 : Nat) : Int) := by rw [addK_eq (by omega) (by omega)]; rfl
  have hi0 : (i : Int) ≠ 0 := by omega
  have hlen : ∀ (n : Nat) (b : Int), b < n → b < i → (anc l b).length ≤ (b + 1).toNat := by
    intro n
    induction n with
    | zero => intro b hb _; rw [anc_neg (by omega)]; simp
    | succ n ih =>
      intro b hb hb2
      by_cases c : b < 0
      · rw [anc_neg c]; simp
      · have := hups b (by omega) hb2
        rw [anc_cons hups (by omega) hb2]
        have := ih (nd l b).up (by omega) (by omega)
        simp only [List.length_cons]; omega
  have hlen1 := hlen i (i - 1) (by omega) (by omega)
  rw [lp11_6, st11_6, bif_t (ltI_t (b := lenI l) (by rw [lenI_eq]; omega)), bif_t hin, lp11p _ _ (big_fuel (by omega)) (by omega), obind_some, anc_drop hups i _ _ (by omega) (by omega)]
  simp only [osum]
  by_cases c1 : (nd l i).up ∈ anc l (i - 1)
  · have hr := anc_mem hups i _ _ (by omega) (by omega) c1
    obtain ⟨hr1, hr2⟩ := hr
    rw [if_pos c1]
    have hne : lenI (anc l (nd l i).up).reverse ≠ 0 := by
      rw [anc_cons hups hr1 (by omega)]; simp [lenI]; omega
    rw [bif_f (eqI_f hne)]
    have hf : ∀ n : Nd, fn25 n = some (leI 1 n.kind && (leI n.kind 18 && leI n.fro n.too), ()) := fun n => by
      rw [fn25]
      cases leI 1 n.1 <;> cases leI n.1 18 <;> rfl
    rw [hf, obind_some]
    by_cases c2 : 1 ≤ (nd l i).kind ∧ (nd l i).kind ≤ 18 ∧ (nd l i).fro ≤ (nd l i).too
    · have hb : (leI 1 (nd l i).kind && (leI (nd l i).kind 18 && leI (nd l i).fro (nd l i).too)) = true := by rw [leI_t c2.1, leI_t c2.2.1, leI_t c2.2.2]; rfl
      have hin2 : inI l (nd l i).up = true := inI_t hr1 (by omega)
      obtain ⟨u, hu⟩ : ∃ u : Nat, (nd l (i : Int)).up = (u : Int) := ⟨(nd l i).up.toNat, by omega⟩
      have hin3 : inI e (nd l i).up = true := inI_t hr1 (by rw [he.1]; omega)
      have hul : u < l.length := by omega
      have hnat : natI (nd l i).up = u := by rw [hu]; rfl
      have hltl : ltL (natI (nd l i).up) e = true := ltL_t (by rw [hnat, he.1]; omega)
      have hlast : nthN e 0 (natI (nd l i).up) = lastTo l i (nd l i).up := by rw [hnat, nthN, he.2 u hul, hu]
      rw [bif_f (by simp only [hb]; rfl), bif_t hin2, bif_t hin3, bif_t hltl]
      have hfu := hok.fro hfr i (nd l i).up (by omega) hr1 (by omega)
      have hmax : ((nd l i).fro < maxI (nd l (nd l i).up).fro (nthN e 0 (natI (nd l i).up))) ↔ ((nd l i).fro < (nd l (nd l i).up).fro ∨ (nd l i).fro < lastTo l i (nd l i).up) := by
        rw [hlast, maxI]; split <;> omega
      by_cases c3 : (nd l i).fro < maxI (nd l (nd l i).up).fro (nthN e 0 (natI (nd l i).up))
      · rw [bif_t (ltI_t c3)]
        refine .inr ⟨fun h => ?_, rfl⟩
        obtain ⟨_, _, _, h4⟩ := h
        obtain ⟨_, _, _, h5, _, h6⟩ := h4 hi0
        rcases hmax.1 c3 with h7 | h7
        · omega
        · rcases lastTo_is (l := l) i (nd l i).up with h8 | ⟨k, k1, k2, k3, k4⟩
          · omega
          · have := h6 k k1 k2 k3; omega
      · rw [bif_f (ltI_n c3), bif_t hin2]
        have h9 : ¬ ((nd l i).fro < (nd l (nd l i).up).fro ∨ (nd l i).fro < lastTo l i (nd l i).up) := fun h => c3 (hmax.2 h)
        by_cases c4 : (nd l (nd l i).up).too < (nd l i).too
        · rw [bif_t (ltI_t c4)]
          exact .inr ⟨fun h => by have := (h.2.2.2 hi0).2.2.2.2.1; omega, rfl⟩
        · rw [bif_f (ltI_n c4), bif_t hin3, bif_t hltl]
          have hcat : catL (anc l (nd l i).up).reverse [(i : Int)] = (anc l i).reverse := by
            have hups' : upsOk l (i + 1) := fun j a b => by
              by_cases e : j = i
              · subst e; omega
              · exact hups j a (by omega)
            rw [anc_cons (b := (i : Int)) hups' (by omega) (by omega), List.reverse_cons]; rfl
          have hlen2 := hlen i (nd l i).up (by omega) (by omega)
          rw [hcat]
          have hfit : fitI (anc l i).reverse 8 = true := by
            rw [← hcat]; simp only [fitI, catL, roomN, decide_eq_true_eq, List.length_append, List.length_reverse, List.length_singleton]; omega
          rw [bif_t hfit, ea, hnat]
          refine .inl ⟨⟨c2.1, c2.2.1, c2.2.2, fun _ => ⟨hr1, by omega, c1, by omega, by omega, fun k k1 k2 k3 => ?_⟩⟩, _, he.set h1 hu hul, rfl⟩
          have := lastTo_ge i (nd l i).up k hok k1 (by omega) k3
          omega
    · have hb : (leI 1 (nd l i).kind && (leI (nd l i).kind 18 && leI (nd l i).fro (nd l i).too)) = false := by
        cases h : (leI 1 (nd l i).kind && (leI (nd l i).kind 18 && leI (nd l i).fro (nd l i).too))
        · rfl
        · simp only [Bool.and_eq_true, leI_iff] at h; exact absurd h c2
      rw [bif_t (by simp only [hb]; rfl)]
      exact .inr ⟨fun h => c2 ⟨h.1, h.2.1, h.2.2.1⟩, rfl⟩
  · rw [if_neg c1, bif_t (eqI_t (by simp [lenI]))]
    exact .inr ⟨fun h => c1 (h.2.2.2 hi0).2.2.1, rfl⟩

theorem all11 {l : List Nd} (hl : l.length < 1000000000000) (hup : (nd l 0).up = -1) (hfr : (nd l 0).fro = 0) : ∀ (n N i : Nat) (e : List Int), l.length - i < n → n < N → 1 ≤ i → i ≤ l.length → okTo l i → endsOk l i e →
    (okTo l l.length ∧ lp11_6 N l i e (anc l (i - 1)).reverse = some (.inl ((), ()))) ∨ (¬ okTo l l.length ∧ lp11_6 N l i e (anc l (i - 1)).reverse = some (.inr ((false, ()), ())))
  | 0, _, i, e, h1, h2, h3, h4, _, _ => by omega
  | n + 1, 0, i, e, h1, h2, h3, h4, _, _ => by omega
  | n + 1, N + 1, i, e, h1, h2, h3, h4, hok, he => by
    by_cases c : i = l.length
    · subst c
      rw [lp11_6, st11_6, bif_f (ltI_f (a := (l.length : Int)) (b := lenI l) (by rw [lenI_eq]; omega))]
      exact .inl ⟨hok, rfl⟩
    · rcases key11 h3 (by omega) hl hup hfr hok he N with ⟨h5, e', h7, h6⟩ | ⟨h5, h6⟩
      · rw [h6]
        have := all11 hl hup hfr n N (i + 1) e' (by omega) (by omega) (by omega) (by omega) (hok.succ h5) h7
        rwa [show (((i + 1 : Nat) : Int) - 1) = (i : Int) by omega] at this
      · exact .inr ⟨fun h => h5 (h i (by omega) (by omega)), h6⟩

theorem fn11_eq {l : List Nd} (hl : l.length < 1000000000000) (leaves : Int) : (Rt l leaves ∧ fn11 l leaves = some (true, ())) ∨ (¬ Rt l leaves ∧ fn11 l leaves = some (false, ())) := by
  rw [fn11]
  by_cases c0 : l = []
  · subst c0
    exact .inr ⟨fun h => h.1 rfl, rfl⟩
  have hpos : 0 < l.length := List.length_pos_iff.2 c0
  have hin : inI l 0 = true := inI_t (by omega) (by omega)
  rw [bif_f (eqI_f (by rw [lenI_eq]; omega)), bif_t hin]
  by_cases c1 : (nd l 0).up = -1
  · rw [bif_f (by rw [eqI_t c1]; rfl), bif_t hin]
    by_cases c2 : (nd l 0).fro = 0
    · rw [bif_f (by rw [eqI_t c2]; rfl), bif_t hin]
      by_cases c3 : (nd l 0).too = leaves
      · rw [bif_f (by rw [eqI_t c3]; rfl), bif_t hin]
        have hf : ∀ n : Nd, fn25 n = some (leI 1 n.kind && (leI n.kind 18 && leI n.fro n.too), ()) := fun n => by
          rw [fn25]
          cases leI 1 n.1 <;> cases leI n.1 18 <;> rfl
        rw [hf, obind_some]
        by_cases c4 : 1 ≤ (nd l 0).kind ∧ (nd l 0).kind ≤ 18 ∧ (nd l 0).fro ≤ (nd l 0).too
        · have hb : (leI 1 (nd l 0).kind && (leI (nd l 0).kind 18 && leI (nd l 0).fro (nd l 0).too)) = true := by rw [leI_t c4.1, leI_t c4.2.1, leI_t c4.2.2]; rfl
          have hroom : (leI 0 (lenI l) && (leI (lenI l) (lenI l) && roomC (lenI l) 8)) = true := by
            rw [leI_t (a := 0) (b := lenI l) (by rw [lenI_eq]; omega), leI_t (Int.le_refl (lenI l))]
            show decide ((l.length : Int).toNat * 8 ≤ 140737488355328) = true
            simp only [Int.toNat_natCast, decide_eq_true_eq]; omega
          rw [bif_f (by simp only [hb]; rfl), bif_t hroom]
          have hok1 : okTo l (1 : Nat) := fun j a b => by
            have : j = 0 := by omega
            subst this
            exact ⟨c4.1, c4.2.1, c4.2.2, fun h => absurd rfl h⟩
          have he : endsOk l 1 (repN (natI (lenI l)) 0) := ⟨by simp [repN, natI, lenI_eq], fun u hu => by
            simp [repN, natI, lenI_eq, List.getD, lastTo, List.getElem?_replicate, hu]⟩
          have hanc : anc l (((1 : Nat) : Int) - 1) = [0] := by
            rw [anc_cons (i := 1) (hok1.ups c1) (by omega) (by omega), show (((1 : Nat) : Int) - 1) = 0 by omega, c1, anc_neg (by omega)]
          have h := all11 hl c1 c2 (l.length + 1) fuelN 1 (repN (natI (lenI l)) 0) (by omega) (big_fuel (by omega)) (by omega) (by omega) hok1 he
          rw [hanc] at h
          rcases h with ⟨h5, h6⟩ | ⟨h5, h6⟩
          · refine .inl ⟨⟨c0, c1, c2, c3, h5⟩, ?_⟩
            rw [show lp11_6 fuelN l 1 (repN (natI (lenI l)) 0) [0] = _ from h6]; rfl
          · refine .inr ⟨fun h => h5 h.2.2.2.2, ?_⟩
            rw [show lp11_6 fuelN l 1 (repN (natI (lenI l)) 0) [0] = _ from h6]; rfl
        · have hb : (leI 1 (nd l 0).kind && (leI (nd l 0).kind 18 && leI (nd l 0).fro (nd l 0).too)) = false := by
            cases h : (leI 1 (nd l 0).kind && (leI (nd l 0).kind 18 && leI (nd l 0).fro (nd l 0).too))
            · rfl
            · simp only [Bool.and_eq_true, leI_iff] at h; exact absurd h c4
          rw [bif_t (by simp only [hb]; rfl)]
          exact .inr ⟨fun h => c4 (by have := h.2.2.2.2 0 (by omega) (by omega); exact ⟨this.1, this.2.1, this.2.2.1⟩), rfl⟩
      · rw [bif_t (by rw [eqI_f c3]; rfl)]; exact .inr ⟨fun h => c3 h.2.2.2.1, rfl⟩
    · rw [bif_t (by rw [eqI_f c2]; rfl)]; exact .inr ⟨fun h => c2 h.2.2.1, rfl⟩
  · rw [bif_t (by rw [eqI_f c1]; rfl)]; exact .inr ⟨fun h => c1 h.2.1, rfl⟩

theorem fn3_eq (l : List Nd) (leaves : Int) : fn3 l leaves = some (true, ()) := by
  rw [fn3]
  by_cases c : 40 < lenI l
  · rw [bif_t (ltI_t c)]
  · rw [bif_f (ltI_n c)]
    rw [lenI_eq] at c
    rcases fn11_eq (l := l) (by omega) leaves with ⟨h1, h2⟩ | ⟨h1, h2⟩ <;> rcases fn12_eq (l := l) (by omega) leaves with ⟨h3, h4⟩ | ⟨h3, h4⟩
    · rw [h2, h4]; rfl
    · exact absurd h1 h3
    · exact absurd h3 h1
    · rw [h2, h4]; rfl
theorem law3 (x0 : List Nd) (x1 : Int) (h0 : wfD (.list (.pair (.int .i64) (.pair (.int .i64) (.pair (.int .i64) (.pair (.int .i64) .unit))))) x0) (h1 : wfD (.int .i64) x1) : fn3 x0 x1 = some (true, ()) := fn3_eq x0 x1
end Go.Proofs.Ytfeklnaeolangaa
