/-
  The law: a tree's text is as the document says, and reads again.
-/
import Derived.Test.YtnmaceljkegenaaDoorTg
import Derived.Test.YtnmaceljkegenaaDoorBd
namespace Go.Proofs.YtnmaceljkegenaaDoor
open Go.RowKit
set_option linter.unusedVariables false
set_option linter.unusedSimpArgs false
set_option maxRecDepth 100000

theorem same_go {l : List Nd} (hl : l.length < 1000000000000) : ∀ (k N : Nat) (n : Nat), l.length - n < k → k < N → lp9_4 N l l (n : Int) = some (.inl ((), ()))
  | 0, N, n, h, _ => by omega
  | k + 1, 0, n, _, h => by omega
  | k + 1, N + 1, n, h1, h2 => by
    rw [lp9_4, st9_4]
    by_cases c : n < l.length
    · have hin : inI l (n : Int) = true := inI_t (by omega) (by omega)
      have ea : addK .i64 (n : Int) 1 = ((n + 1 : Nat) : Int) := by rw [addK_eq (by omega) (by omega)]; rfl
      rw [bif_t (ltI_t (b := lenI l) (by rw [lenI_eq]; omega)), bif_t hin, bif_t hin, bif_f (by simp [eqI_t]), ea]
      exact same_go hl k N (n + 1) (by omega) (by omega)
    · rw [bif_f (ltI_f (b := lenI l) (by rw [lenI_eq]; omega))]

theorem same_self {l : List Nd} (hl : l.length < 1000000000000) : fn9 l l = some (true, ()) := by
  have h := same_go hl (l.length + 1) fuelN 0 (by omega) (big_fuel (by omega))
  rw [fn9, bif_f (by rw [eqI_t rfl]; rfl), show lp9_4 fuelN l l 0 = _ from h]
  rfl

theorem nd_mem {l : List Nd} {i : Int} (h0 : 0 ≤ i) (hi : i < l.length) : nd l i ∈ l := by
  have h : i.toNat < l.length := by omega
  have : nd l i = l[i.toNat] := by
    show l.getD i.toNat _ = _
    rw [List.getD_eq_getElem?_getD, List.getElem?_eq_getElem h]; rfl
  rw [this]; exact List.getElem_mem h

theorem wf_int {x : Int} (h : wfD (.int .i64) x) : x < 9223372036854775808 := by
  have h2 : (Lit.int .i64 x).wf = true := h
  simp [Lit.wf, IntKind.min, IntKind.max, IntKind.signed, IntKind.bits] at h2; omega

theorem law_shows (l : List Nd) (z : wfD (.list (.pair (.int .i64) (.pair (.int .i64) (.pair (.int .i64) (.pair (.int .i64) .unit))))) l) : fn3 l = some (true, ()) := by
  rw [fn3]
  by_cases c0 : 40 < lenI l
  · rw [bif_t (ltI_t c0)]
  rw [bif_f (ltI_n c0)]
  rw [lenI_eq] at c0
  by_cases c1 : l = []
  · subst c1
    rfl
  have hpos : 0 < l.length := List.length_pos_iff.2 c1
  have hin : inI l 0 = true := inI_t (by omega) (by omega)
  have h0 : (getI l (0, (0, (0, (0, ())))) 0).2.2.1 = (nd l 0).too := rfl
  rcases fn12_eq (l := l) (by omega) (nd l 0).too with ⟨hr, hR⟩ | ⟨hr, hR⟩
  · have h : Rf l := ⟨hpos, by omega, hr.2.1, hr.2.2.1, hr.2.2.2.2, fun i a b => wf_int (z.2 _ (nd_mem a b)).2.2.1⟩
    rw [Show_p h, obind_some, bif_f (eqI_f (by rw [lenI_eq]; omega)), bif_t hin, h0, hR, obind_some]
    simp only
    rw [Bool.not_true, cond_false, Show_r h, obind_some]
    simp only
    rw [eqS_refl, Bool.not_true, cond_false, bif_t hin]
    by_cases c2 : 1000000 < (nd l 0).too
    · rw [bif_t (ltI_t c2)]
    · rw [bif_f (ltI_n c2), Read_t h (by omega), obind_some]
      simp only
      rw [bif_t (eqI_t rfl), bif_t (eqI_t rfl), same_self (by omega), obind_some]
  · have hS : fn5 l = some ([], ()) := by
      rcases fn11_eq (l := l) (by omega) (nd l 0).too with ⟨h1, _⟩ | ⟨_, h2⟩
      · exact absurd h1 hr
      · rw [fn5, bif_f (eqI_f (by rw [lenI_eq]; omega)), bif_t hin, h0, h2, obind_some]
        rfl
    rw [hS, obind_some, bif_f (eqI_f (by rw [lenI_eq]; omega)), bif_t hin, h0, hR, obind_some]
    rfl
#print axioms law_shows
end Go.Proofs.YtnmaceljkegenaaDoor
