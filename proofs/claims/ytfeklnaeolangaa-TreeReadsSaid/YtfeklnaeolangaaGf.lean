/-
  Reading a tree: the program's reader and the document's go on alike.
-/
import Derived.Test.YtfeklnaeolangaaGc
import Derived.Test.YtfeklnaeolangaaFd
namespace Go.Proofs.Ytfeklnaeolangaa
open Go.RowKit
set_option linter.unusedVariables false
set_option linter.unusedSimpArgs false
set_option maxRecDepth 100000

theorem byteAt_lo (s : List UInt8) (i : Int) : 0 ≤ byteAt s i := by unfold byteAt; omega
theorem byteAt_hi (s : List UInt8) (i : Int) : byteAt s i < 256 := by
  unfold byteAt
  have := (s.getD i.toNat 0).toNat_lt
  omega

/-! ### digits -/
def digitsOk : Bool := (List.range 256).all fun b => match fn35 (b : Int) with
  | some (c, _) => (decide (c = 6)) == (decide (48 ≤ b) && decide (b ≤ 57))
  | none => false
theorem digits_ok : digitsOk = true := by kernel_rfl

theorem fn35_eq {b : Int} (h0 : 0 ≤ b) (h1 : b < 256) : ∃ c, fn35 b = some (c, ()) ∧ (c = 6 ↔ 48 ≤ b ∧ b ≤ 57) := by
  obtain ⟨n, rfl⟩ : ∃ n : Nat, b = n := ⟨b.toNat, by omega⟩
  have h := List.all_eq_true.1 digits_ok n (List.mem_range.2 (by omega))
  split at h
  · rename_i c u hc
    refine ⟨c, hc, ?_⟩
    have h := (beq_iff_eq.1 h)
    by_cases c6 : c = 6
    · simp only [c6, decide_true] at h
      have := h.symm
      simp only [Bool.and_eq_true, decide_eq_true_eq] at this
      exact ⟨fun _ => by omega, fun _ => c6⟩
    · simp only [c6, decide_false] at h
      have := h.symm
      simp only [Bool.and_eq_false_iff, decide_eq_false_iff_not] at this
      exact ⟨fun h => absurd h c6, fun ⟨a, b⟩ => by omega⟩
  · cases h

/-! ### numbers -/
theorem step_num {n b : Int} (h0 : 48 ≤ b) (h1 : b ≤ 57) : addK .i64 (mulK .i64 n 10) (wrapK .i64 (subK .u8 b 48)) = subK .i64 (addK .i64 (mulK .i64 n 10) (wrapK .i64 b)) 48 := by
  have e1 : wrapK .i64 (subK .u8 b 48) = b - 48 := by
    unfold wrapK subK
    rw [IntKind.wrap_u8, IntKind.wrap_i64]; omega
  have e2 : wrapK .i64 b = b := by unfold wrapK; rw [IntKind.wrap_i64]; omega
  rw [e1, e2]
  unfold addK subK
  simp only [IntKind.wrap_i64]
  omega

def isDig (s : List UInt8) (i : Int) : Prop := 48 ≤ byteAt s i ∧ byteAt s i ≤ 57

theorem num_go {s : List UInt8} {at0 : Int} (ha : 0 ≤ at0) (hl : s.length < 1000000000) : ∀ (k : Nat) (N M : Nat) (n e : Int), (s.length : Int) - e < k → k < N → k < M → at0 ≤ e → e ≤ s.length → (e = at0 ∨ (byteAt s at0 ≠ 48 ∧ isDig s (e - 1))) →
    ∃ n' e', at0 ≤ e' ∧ e ≤ e' ∧ e' ≤ s.length ∧ (e' = at0 ∨ isDig s (e' - 1)) ∧ lp34_2 N s at0 n e = some (.inl ((at0, n', e', ()), ())) ∧ lp28_3 M s at0 n e = some (.inl ((n', e', ()), ()))
  | 0, N, M, n, e, h1, _, _, _, h5, _ => by omega
  | k + 1, 0, M, n, e, _, h2, _, _, _, _ => by omega
  | k + 1, N + 1, 0, n, e, _, _, h3, _, _, _ => by omega
  | k + 1, N + 1, M + 1, n, e, h1, h2, h3, h4, h5, h6 => by
    have e7 : addK .i64 at0 7 = at0 + 7 := addK_eq (by omega) (by omega)
    have stop : ∀ (x : Option (pa34_2.den ⊕ pb34_2.den)) (y : Option (pa28_3.den ⊕ pb28_3.den)), x = some (.inl ((at0, n, e, ()), ())) → y = some (.inl ((n, e, ()), ())) →
        ∃ n' e', at0 ≤ e' ∧ e ≤ e' ∧ e' ≤ s.length ∧ (e' = at0 ∨ isDig s (e' - 1)) ∧ x = some (.inl ((at0, n', e', ()), ())) ∧ y = some (.inl ((n', e', ()), ())) := fun x y hx hy =>
      ⟨n, e, h4, by omega, h5, h6.imp (fun h => h) (fun h => h.2), hx, hy⟩
    rw [lp34_2, st34_2, lp28_3, st28_3, e7]
    by_cases c1 : e < s.length
    · have hin : inI s e = true := inI_t (by omega) c1
      have hin0 : inI s at0 = true := inI_t ha (by omega)
      have hlt : ltI e (lenI s) = true := ltI_t (b := lenI s) (by rw [lenI_eq]; exact c1)
      simp only [hin, hin0, hlt, cond_true]
      by_cases c2 : e < at0 + 7
      · obtain ⟨c, hc, hiff⟩ := fn35_eq (byteAt_lo s e) (byteAt_hi s e)
        simp only [ltI_t c2, cond_true]
        rw [hc, obind_some]
        by_cases c3 : 48 ≤ byteAt s e
        · rw [bif_t (leI_t c3)]
          by_cases c4 : byteAt s e ≤ 57
          · have hd : isDig s e := ⟨c3, c4⟩
            have ee : addK .i64 e 1 = e + 1 := addK_eq (by omega) (by omega)
            rw [bif_t (leI_t c4), bif_t (eqI_t (hiff.2 ⟨c3, c4⟩)), step_num c3 c4, ee]
            by_cases c5 : byteAt s at0 = 48
            · have he : e = at0 := by
                rcases h6 with h6 | h6
                · exact h6
                · exact absurd c5 h6.1
              rw [bif_t (eqI_t c5), bif_t (eqI_t he)]
              obtain _ | M := M
              · omega
              rw [lp28_3, st28_3, e7]
              have fin : ∀ (x : Option (pa28_3.den ⊕ pb28_3.den)), x = some (.inl ((subK .i64 (addK .i64 (mulK .i64 n 10) (wrapK .i64 (byteAt s e))) 48, e + 1, ()), ())) →
                  ∃ n' e', at0 ≤ e' ∧ e ≤ e' ∧ e' ≤ s.length ∧ (e' = at0 ∨ isDig s (e' - 1)) ∧ (some (.inl ((at0, subK .i64 (addK .i64 (mulK .i64 n 10) (wrapK .i64 (byteAt s e))) 48, e + 1, ()), ())) : Option (pa34_2.den ⊕ pb34_2.den)) = some (.inl ((at0, n', e', ()), ())) ∧ x = some (.inl ((n', e', ()), ())) := fun x hx =>
                ⟨_, e + 1, by omega, by omega, by omega, .inr (by rw [show e + 1 - 1 = e by omega]; exact hd), rfl, hx⟩
              by_cases d1 : e + 1 < s.length
              · have hin1 : inI s (e + 1) = true := inI_t (by omega) d1
                obtain ⟨c', hc', _⟩ := fn35_eq (byteAt_lo s (e + 1)) (byteAt_hi s (e + 1))
                rw [bif_t (ltI_t (b := lenI s) (by rw [lenI_eq]; exact d1))]
                by_cases d2 : e + 1 < at0 + 7
                · rw [bif_t (ltI_t d2), bif_t hin1, hc', obind_some]
                  by_cases d3 : c' = 6
                  · rw [bif_t (eqI_t d3), bif_f (eqI_f (show e + 1 ≠ at0 by omega)), bif_t hin0, bif_f (by rw [eqI_t c5]; rfl)]
                    exact fin _ rfl
                  · rw [bif_f (eqI_f d3)]; exact fin _ rfl
                · rw [bif_f (ltI_n d2)]; exact fin _ rfl
              · rw [bif_f (ltI_n (b := lenI s) (by rw [lenI_eq]; exact d1))]; exact fin _ rfl
            · have ih := num_go ha hl k N M (subK .i64 (addK .i64 (mulK .i64 n 10) (wrapK .i64 (byteAt s e))) 48) (e + 1) (by omega) (by omega) (by omega) (by omega) (by omega) (.inr ⟨c5, by rw [show e + 1 - 1 = e by omega]; exact hd⟩)
              obtain ⟨n', e', g1, g2, g3, g4, g5, g6⟩ := ih
              rw [bif_f (eqI_f c5)]
              refine ⟨n', e', g1, by omega, g3, g4, g5, ?_⟩
              by_cases he : e = at0
              · rw [bif_t (eqI_t he)]; exact g6
              · rw [bif_f (eqI_f he), bif_t (by rw [eqI_f c5]; rfl)]; exact g6
          · rw [bif_f (leI_n c4), bif_f (eqI_f (fun h => c4 (hiff.1 h).2))]
            exact stop _ _ rfl rfl
        · rw [bif_f (leI_n c3), bif_f (eqI_f (fun h => c3 (hiff.1 h).1))]
          exact stop _ _ rfl rfl
      · simp only [ltI_n c2, cond_false]
        exact stop _ _ rfl rfl
    · have hlt : ltI e (lenI s) = false := ltI_n (b := lenI s) (by rw [lenI_eq]; exact c1)
      simp only [hlt, cond_false]
      exact stop _ _ rfl rfl

theorem num_eq {s : List UInt8} {at0 : Int} (ha : 0 ≤ at0) (hl : s.length < 1000000000) (h : at0 ≤ s.length) :
    ∃ n e, at0 ≤ e ∧ e ≤ s.length ∧ (e = at0 ∨ isDig s (e - 1)) ∧ fn34 s at0 = some (n, (e, (decide (at0 < e), ()))) ∧ fn28 s at0 = some (n, (e, ())) := by
  obtain ⟨n, e, h1, _, h3, h4, h5, h6⟩ := num_go ha hl (s.length + 1) fuelN fuelN 0 at0 (by omega) (big_fuel (by omega)) (big_fuel (by omega)) (by omega) h (.inl rfl)
  refine ⟨n, e, h1, h3, h4, ?_, ?_⟩
  · rw [fn34, h5]; rfl
  · rw [fn28, h6]; rfl

/-! ### letters -/
abbrev Ltr : List UInt8 := [63, 80, 76, 65, 73, 83, 88, 87, 82, 66, 85, 70, 72, 79, 67, 84, 78, 69, 77]

theorem byteAt_nat (s : List UInt8) (i : Nat) : byteAt s (i : Int) = ((s.getD i 0).toNat : Int) := rfl

theorem ib_cons (x : UInt8) (l : List UInt8) (c : UInt8) : (x = c ∧ Lib.indexByte (x :: l) c = 0) ∨ (x ≠ c ∧ Lib.indexByte l c = -1 ∧ Lib.indexByte (x :: l) c = -1) ∨ (x ≠ c ∧ 0 ≤ Lib.indexByte l c ∧ Lib.indexByte (x :: l) c = Lib.indexByte l c + 1) := by
  have hge := Lib.indexByte_ge l c
  by_cases h1 : x = c
  · left; exact ⟨h1, by simp [Lib.indexByte, h1]⟩
  · right
    by_cases h2 : Lib.indexByte l c = -1
    · left; exact ⟨h1, h2, by simp [Lib.indexByte, h1, h2]⟩
    · right; exact ⟨h1, by omega, by simp [Lib.indexByte, h1, h2]⟩

theorem in_go (L : List UInt8) (c : UInt8) (hL : L.length < 1000000) : ∀ (m N k : Nat), k + m = L.length → m < N →
    (0 ≤ Lib.indexByte (L.drop k) c ∧ lp27_2 N (c.toNat : Int) L (k : Int) = some (.inr ((true, ()), ()))) ∨ (¬ 0 ≤ Lib.indexByte (L.drop k) c ∧ lp27_2 N (c.toNat : Int) L (k : Int) = some (.inl ((), ())))
  | m, 0, k, _, h => by omega
  | 0, N + 1, k, h1, _ => by
    rw [lp27_2, st27_2, bif_f (ltI_f (b := lenI L) (by rw [lenI_eq]; omega)), List.drop_of_length_le (by omega)]
    exact .inr ⟨by simp [Lib.indexByte], rfl⟩
  | m + 1, N + 1, k, h1, h2 => by
    have hk : k < L.length := by omega
    have ea : addK .i64 (k : Int) 1 = ((k + 1 : Nat) : Int) := by rw [addK_eq (by omega) (by omega)]; rfl
    rw [lp27_2, st27_2, bif_t (ltI_t (b := lenI L) (by rw [lenI_eq]; omega)), bif_t (inI_t (by omega) (by omega)), byteAt_nat, List.drop_eq_getElem_cons hk]
    have hg : L.getD k 0 = L[k] := by simp [List.getD, hk]
    rw [hg, ea]
    have ih := in_go L c hL m N (k + 1) (by omega) (by omega)
    rcases ib_cons L[k] (L.drop (k + 1)) c with ⟨c1, c2⟩ | ⟨c1, c2, c3⟩ | ⟨c1, c2, c3⟩
    · rw [bif_t (eqI_t (by rw [c1])), c2]
      exact .inl ⟨by omega, rfl⟩
    · have hne : (L[k].toNat : Int) ≠ (c.toNat : Int) := fun h => c1 (UInt8.toNat_inj.1 (by omega))
      rw [bif_f (eqI_f hne), c3]
      rcases ih with ⟨q, _⟩ | ⟨q1, q2⟩
      · omega
      · exact .inr ⟨by omega, q2⟩
    · have hne : (L[k].toNat : Int) ≠ (c.toNat : Int) := fun h => c1 (UInt8.toNat_inj.1 (by omega))
      rw [bif_f (eqI_f hne), c3]
      rcases ih with ⟨q1, q2⟩ | ⟨q, _⟩
      · exact .inl ⟨by omega, q2⟩
      · exact absurd c2 q

theorem in_eq (c : UInt8) : fn27 (c.toNat : Int) Ltr = some (decide (0 ≤ Lib.indexByte Ltr c), ()) := by
  have h := in_go Ltr c (by decide) 19 fuelN 0 rfl (big_fuel (by omega))
  rw [List.drop_zero] at h
  rw [fn27]
  rcases h with ⟨h1, h2⟩ | ⟨h1, h2⟩
  · rw [show lp27_2 fuelN (c.toNat : Int) Ltr 0 = _ from h2, obind_some, decide_eq_true h1]; rfl
  · rw [show lp27_2 fuelN (c.toNat : Int) Ltr 0 = _ from h2, obind_some, decide_eq_false h1]; rfl

theorem letter_go {s : List UInt8} {up at0 : Int} {out : List Nd} (c : UInt8) (hc : byteAt s at0 = (c.toNat : Int)) (hin : inI s at0 = true) : ∀ (m N k : Nat), k + m = 19 → m < N → 0 ≤ Lib.indexByte (Ltr.drop k) c →
    lp14_7 N s up at0 (k : Int) out = some (.inl ((s, up, at0, (k : Int) + Lib.indexByte (Ltr.drop k) c, ()), (out, ())))
  | m, 0, k, _, h, _ => by omega
  | 0, N + 1, k, h1, _, h3 => by
    rw [List.drop_of_length_le (by simp; omega)] at h3
    simp [Lib.indexByte] at h3
  | m + 1, N + 1, k, h1, h2, h3 => by
    have hk : k < Ltr.length := by simp; omega
    have ea : addK .i64 (k : Int) 1 = ((k + 1 : Nat) : Int) := by rw [addK_eq (by omega) (by omega)]; rfl
    rw [lp14_7, st14_7, bif_t (inI_t (by omega) (by simp only [List.length_cons, List.length_nil]; omega)), bif_t hin, hc, ea]
    have hg : byteAt Ltr (k : Int) = (Ltr[k].toNat : Int) := by rw [byteAt_nat]; simp only [List.getD, List.getElem?_eq_getElem hk, Option.getD_some]
    rw [List.drop_eq_getElem_cons hk] at h3 ⊢
    rw [show byteAt [63, 80, 76, 65, 73, 83, 88, 87, 82, 66, 85, 70, 72, 79, 67, 84, 78, 69, 77] (k : Int) = _ from hg]
    rcases ib_cons Ltr[k] (Ltr.drop (k + 1)) c with ⟨c1, c2⟩ | ⟨c1, c2, c3⟩ | ⟨c1, c2, c3⟩
    · rw [bif_f (by rw [eqI_t (by rw [c1])]; rfl), c2]
      simp
    · omega
    · have hne : (Ltr[k].toNat : Int) ≠ (c.toNat : Int) := fun h => c1 (UInt8.toNat_inj.1 (by omega))
      rw [bif_t (by rw [eqI_f hne]; rfl), c3]
      have ih := letter_go (up := up) (out := out) c hc hin m N (k + 1) (by omega) (by omega) c2
      refine ih.trans ?_
      rw [show ((k + 1 : Nat) : Int) + Lib.indexByte (Ltr.drop (k + 1)) c = (k : Int) + (Lib.indexByte (Ltr.drop (k + 1)) c + 1) by omega]

theorem fn33_eq (c : UInt8) : fn33 Ltr (c.toNat : Int) = some (Lib.indexByte Ltr c, ()) := by
  rw [fn33, fn37, obind_some]
  have : ibW Ltr (c.toNat : Int) = Lib.indexByte Ltr c := by
    unfold ibW
    congr 1
    simp
  rw [this]

/-! ### the closing brackets -/
theorem close_go {s : List UInt8} {l : List Nd} (hl : s.length < 1000000000) (hll : l.length < 1000000000) (hups : upsOk l l.length) : ∀ (k N M : Nat) (e up last : Int), (s.length : Int) - e < k → k < N → k < M → 0 ≤ e → e ≤ s.length → -1 ≤ up → up < l.length →
    ∃ e' up' last' : Int, e ≤ e' ∧ e' ≤ s.length ∧ -1 ≤ up' ∧ up' < l.length ∧ ((e' = e ∧ up' = up ∧ last' = last) ∨ (e < e' ∧ byteAt s e = 41 ∧ byteAt s (e' - 1) = 41)) ∧ (e' < s.length → 0 ≤ up' → byteAt s e' ≠ 41) ∧
      lp13_8 N s e up last l = some (.inl ((s, e', up', last', ()), (l, ()))) ∧ lp14_20 M s up e l = some (.inl ((s, up', e', ()), (l, ())))
  | 0, N, M, e, up, last, h1, _, _, _, h5, _, _ => by omega
  | k + 1, 0, M, e, up, last, _, h2, _, _, _, _, _ => by omega
  | k + 1, N + 1, 0, e, up, last, _, _, h3, _, _, _, _ => by omega
  | k + 1, N + 1, M + 1, e, up, last, h1, h2, h3, h4, h5, h6, h7 => by
    rw [lp13_8, st13_8, lp14_20, st14_20]
    by_cases c1 : e < s.length
    · have hin : inI s e = true := inI_t h4 c1
      have hlt0 : ltI e (lenI s) = true := ltI_t (a := e) (b := lenI s) (by rw [lenI_eq]; exact c1)
      simp only [hin, hlt0, cond_true]
      by_cases c2 : byteAt s e = 41
      · simp only [eqI_t c2, cond_true]
        by_cases c3 : 0 ≤ up
        · have hu := hups up c3 (by omega)
          have ee : addK .i64 e 1 = e + 1 := addK_eq (by omega) (by omega)
          have hn : (nthN l (0, (0, (0, (0, ())))) (natI up)).2.2.2.1 = (nd l up).up := rfl
          have hlt : ltL (natI up) l = true := ltL_t (by unfold natI; omega)
          simp only [leI_t c3, inI_t c3 h7, hlt, cond_true, hn, ee]
          obtain ⟨e', up', last', g1, g2, g3, g4, g5, g6, g7, g8⟩ := close_go hl hll hups k N M (e + 1) (nd l up).up up (by omega) (by omega) (by omega) (by omega) (by omega) (by omega) (by omega)
          refine ⟨e', up', last', by omega, g2, g3, g4, .inr ?_, g6, g7, g8⟩
          rcases g5 with ⟨q1, _, _⟩ | ⟨q1, q2⟩
          · exact ⟨by omega, c2, by rw [q1, show e + 1 - 1 = e by omega]; exact c2⟩
          · exact ⟨by omega, c2, q2.2⟩
        · simp only [leI_n c3, cond_false]
          exact ⟨e, up, last, by omega, h5, h6, h7, .inl ⟨rfl, rfl, rfl⟩, fun _ h => absurd h c3, rfl, rfl⟩
      · simp only [eqI_f c2, cond_false]
        by_cases c3 : 0 ≤ up
        · rw [bif_t (leI_t c3)]
          exact ⟨e, up, last, by omega, h5, h6, h7, .inl ⟨rfl, rfl, rfl⟩, fun _ _ => c2, rfl, rfl⟩
        · rw [bif_f (leI_n c3)]
          exact ⟨e, up, last, by omega, h5, h6, h7, .inl ⟨rfl, rfl, rfl⟩, fun _ _ => c2, rfl, rfl⟩
    · have c1' : ltI e (lenI s) = false := ltI_n (by rw [lenI_eq]; exact c1)
      rw [c1']
      simp only [cond_false]
      by_cases c3 : 0 ≤ up
      · rw [bif_t (leI_t c3)]
        exact ⟨e, up, last, by omega, h5, h6, h7, .inl ⟨rfl, rfl, rfl⟩, fun h => absurd h c1, rfl, rfl⟩
      · rw [bif_f (leI_n c3)]
        exact ⟨e, up, last, by omega, h5, h6, h7, .inl ⟨rfl, rfl, rfl⟩, fun h => absurd h c1, rfl, rfl⟩
end Go.Proofs.Ytfeklnaeolangaa
