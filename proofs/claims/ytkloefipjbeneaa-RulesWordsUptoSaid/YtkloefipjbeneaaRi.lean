/-
  The reader and the document tell the same of each row.
-/
import Derived.Test.YtkloefipjbeneaaRh
namespace Go.Proofs.Ytkloefipjbeneaa
open Go.RowKit
set_option linter.unusedVariables false
set_option linter.unusedSimpArgs false

abbrev rEnd : Rd (Bool × Unit) := fun s b => bif (!b) then some ((eqS s []), ()) else some (false, ())

/-- what a reader's function tells of a row, in the end -/
theorem told' {m : Nat} {f : Rd R0} {B : Lg → Lg} {S : List UInt8} (h : Spec mk0 m f B S) (row : List UInt8) (hr : row.length ≤ m) :
    ∃ t, rSeq f rEnd row false = some (t, ()) ∧ (t = true ↔ B Nil row) := told h row hr

theorem rSeq_assoc {ρ : Type} (f g : Rd R0) (h : Rd ρ) (s : List UInt8) (b : Bool) : rSeq (rSeq f g) h s b = rSeq f (rSeq g h) s b := by
  unfold rSeq
  rw [obind_obind]
theorem rSeq_opt {ρ : Type} (S : List UInt8) (g : Rd R0) (h : Rd ρ) (s : List UInt8) (b : Bool) : rSeq (rOpt S g) h s b = rOpt S (rSeq g h) s b := by
  unfold rSeq rOpt
  rw [obind_obind]
theorem rSeq_ret {ρ : Type} (h : Rd ρ) (s : List UInt8) (b : Bool) : rSeq rRet h s b = h s b := rfl

theorem bool_same {a b : Bool} {P Q : Prop} (h1 : a = true ↔ P) (h2 : b = true ↔ Q) (h : P ↔ Q) : a = b := by
  rw [Bool.eq_iff_iff, h1, h2, h]

section
variable {row : List UInt8} (hr : row.length < 100000)
include hr

theorem same1 : ∃ t, fn53 1 row = some (t, ()) ∧ fn31 1 row = some (t, ()) := by
  obtain ⟨t, h1, h2⟩ := form1 hr
  obtain ⟨u, g1, g2⟩ := told' (m := 99999) (spec_seq (spec_many [110] (show 99999 < 1000000 by decide)) (spec_opt (T := [76]) (spec_ret (mk := mk0) (S := [76, 110])) fun Q hQ => hQ.sub (by decide)) fun Q hQ => apart_or (apart_one _ (by decide)) (hQ.sub (by decide))) row (by omega)
  rw [kind1] at h2
  have e : u = t := bool_same g2 h2 (by
    simp only [(lin_many [110]).or]
    exact or_comm)
  subst e
  refine ⟨u, ?_, h1⟩
  rw [← g1, fn53]
  simp only [show eqI 1 1 = true from rfl, cond_true, cond_false]
  rw [rSeq_assoc]; unfold rSeq rOpt; simp only [obind_obind, obind_some]; rfl

theorem same2 : ∃ t, fn53 2 row = some (t, ()) ∧ fn31 2 row = some (t, ()) := by
  obtain ⟨t, h1, h2⟩ := form2 hr
  obtain ⟨u, g1, g2⟩ := told' (m := 99999) (spec_list (show 99999 < 1000000 by decide)) row (by omega)
  rw [kind2] at h2
  have e : u = t := bool_same g2 h2 (Iff.rfl)
  subst e
  refine ⟨u, ?_, h1⟩
  rw [← g1, fn53]
  simp only [show eqI 2 1 = false from rfl, show eqI 2 2 = true from rfl, cond_true, cond_false]
  rfl

theorem same3 : ∃ t, fn53 3 row = some (t, ()) ∧ fn31 3 row = some (t, ()) := by
  obtain ⟨t, h1, h2⟩ := form3 hr
  obtain ⟨u, g1, g2⟩ := told' (m := 99999) (spec_joined (show 99999 < 1000000 by decide) [73] [97, 111] (by decide)) row (by omega)
  rw [kind3] at h2
  have e : u = t := bool_same g2 h2 (Iff.rfl)
  subst e
  refine ⟨u, ?_, h1⟩
  rw [← g1, fn53]
  simp only [show eqI 3 1 = false from rfl, show eqI 3 2 = false from rfl, show eqI 3 3 = true from rfl, cond_true, cond_false]
  rfl

theorem same4 : ∃ t, fn53 4 row = some (t, ()) ∧ fn31 4 row = some (t, ()) := by
  obtain ⟨t, h1, h2⟩ := form4 hr
  obtain ⟨u, g1, g2⟩ := told' (m := 99999) (spec_opt (T := [33]) (spec_joined (show 99999 < 1000000 by decide) cmdS [124] (by decide)) fun Q hQ => apart_one _ (by decide)) row (by omega)
  rw [kind4] at h2
  have e : u = t := bool_same g2 h2 (or_comm)
  subst e
  refine ⟨u, ?_, h1⟩
  rw [← g1, fn53]
  simp only [show eqI 4 1 = false from rfl, show eqI 4 2 = false from rfl, show eqI 4 3 = false from rfl, show eqI 4 4 = true from rfl, cond_true, cond_false]
  rw [rSeq_opt]; rfl

theorem same8 : ∃ t, fn53 8 row = some (t, ()) ∧ fn31 8 row = some (t, ()) := by
  obtain ⟨t, h1, h2⟩ := form8 hr
  obtain ⟨u, g1, g2⟩ := told' (m := 99999) (spec_opt (T := [35]) (spec_must (m := 99999) [[60], [87]] (by simp)) fun Q hQ => apart_one _ (by decide)) row (by omega)
  rw [kind8] at h2
  have e : u = t := bool_same g2 h2 (or_comm)
  subst e
  refine ⟨u, ?_, h1⟩
  rw [← g1, fn53]
  simp only [show eqI 8 1 = false from rfl, show eqI 8 2 = false from rfl, show eqI 8 3 = false from rfl, show eqI 8 4 = false from rfl, show eqI 8 5 = false from rfl, show eqI 8 8 = true from rfl, cond_true, cond_false]
  rw [rSeq_opt]; rfl

theorem same9 : ∃ t, fn53 9 row = some (t, ()) ∧ fn31 9 row = some (t, ()) := by
  obtain ⟨t, h1, h2⟩ := form9 hr
  have hs := spec_seq (spec_must1 [123]) (spec_seq (spec_body (show 99999 < 1000000 by decide)) (spec_seq (spec_must1 [125]) (spec_seq (spec_ends (show 99999 < 1000000 by decide)) (spec_ret (mk := mk0)) fun Q h => h) fun Q _ => apart_nil _) fun Q _ => apart_nil _) fun Q _ => apart_nil _
  obtain ⟨u, g1, g2⟩ := told' (m := 99999) hs row (by omega)
  rw [kind9] at h2
  have e : u = t := bool_same g2 h2 (Iff.rfl)
  subst e
  refine ⟨u, ?_, h1⟩
  rw [← g1, fn53]
  simp only [show eqI 9 1 = false from rfl, show eqI 9 2 = false from rfl, show eqI 9 3 = false from rfl, show eqI 9 4 = false from rfl, show eqI 9 5 = false from rfl, show eqI 9 8 = false from rfl, cond_true, cond_false]
  rw [fn68]
  simp only [show eqI 9 9 = true from rfl, cond_true, cond_false]
  rfl

theorem same10 : ∃ t, fn53 10 row = some (t, ()) ∧ fn31 10 row = some (t, ()) := by
  obtain ⟨t, h1, h2⟩ := form10 hr
  have hs := spec_seq (spec_must1 [40]) (spec_seq (spec_body (show 99999 < 1000000 by decide)) (spec_seq (spec_must1 [41]) (spec_seq (spec_ends (show 99999 < 1000000 by decide)) (spec_ret (mk := mk0)) fun Q h => h) fun Q _ => apart_nil _) fun Q _ => apart_nil _) fun Q _ => apart_nil _
  obtain ⟨u, g1, g2⟩ := told' (m := 99999) hs row (by omega)
  rw [kind10] at h2
  have e : u = t := bool_same g2 h2 (Iff.rfl)
  subst e
  refine ⟨u, ?_, h1⟩
  rw [← g1, fn53]
  simp only [show eqI 10 1 = false from rfl, show eqI 10 2 = false from rfl, show eqI 10 3 = false from rfl, show eqI 10 4 = false from rfl, show eqI 10 5 = false from rfl, show eqI 10 8 = false from rfl, cond_true, cond_false]
  rw [fn68]
  simp only [show eqI 10 9 = false from rfl, show eqI 10 10 = true from rfl, cond_true, cond_false]
  rfl

theorem same11 : ∃ t, fn53 11 row = some (t, ()) ∧ fn31 11 row = some (t, ()) := by
  obtain ⟨t, h1, h2⟩ := form11 hr
  have hs := spec_seq (spec_if' (show 99999 < 1000000 by decide)) (spec_ret (mk := mk0)) fun Q h => h
  obtain ⟨u, g1, g2⟩ := told' (m := 99999) hs row (by omega)
  rw [kind11] at h2
  have e : u = t := bool_same g2 h2 (by
    have e : ∀ P Q : Lg, Or P Q = Or Q P := fun P Q => funext fun s => propext or_comm
    rw [e])
  subst e
  refine ⟨u, ?_, h1⟩
  rw [← g1, fn53]
  simp only [show eqI 11 1 = false from rfl, show eqI 11 2 = false from rfl, show eqI 11 3 = false from rfl, show eqI 11 4 = false from rfl, show eqI 11 5 = false from rfl, show eqI 11 8 = false from rfl, cond_true, cond_false]
  rw [fn68]
  simp only [show eqI 11 9 = false from rfl, show eqI 11 10 = false from rfl, show eqI 11 11 = true from rfl, cond_true, cond_false]
  rfl

theorem same12 : ∃ t, fn53 12 row = some (t, ()) ∧ fn31 12 row = some (t, ()) := by
  obtain ⟨t, h1, h2⟩ := form12 hr
  have hs := spec_seq (spec_must1 [119]) (spec_seq (spec_body (show 99999 < 1000000 by decide)) (spec_seq (spec_do (show 99999 < 1000000 by decide)) (spec_ret (mk := mk0)) fun Q h => h) fun Q _ => apart_nil _) fun Q _ => apart_nil _
  obtain ⟨u, g1, g2⟩ := told' (m := 99999) hs row (by omega)
  rw [kind12] at h2
  have e : u = t := bool_same g2 h2 (Iff.rfl)
  subst e
  refine ⟨u, ?_, h1⟩
  rw [← g1, fn53]
  simp only [show eqI 12 1 = false from rfl, show eqI 12 2 = false from rfl, show eqI 12 3 = false from rfl, show eqI 12 4 = false from rfl, show eqI 12 5 = false from rfl, show eqI 12 8 = false from rfl, cond_true, cond_false]
  rw [fn68]
  simp only [show eqI 12 9 = false from rfl, show eqI 12 10 = false from rfl, show eqI 12 11 = false from rfl, show eqI 12 12 = true from rfl, cond_true, cond_false]
  rfl

theorem same13 : ∃ t, fn53 13 row = some (t, ()) ∧ fn31 13 row = some (t, ()) := by
  obtain ⟨t, h1, h2⟩ := form13 hr
  have hs := spec_seq (spec_for (show 99999 < 1000000 by decide)) (spec_ret (mk := mk0)) fun Q h => h
  obtain ⟨u, g1, g2⟩ := told' (m := 99999) hs row (by omega)
  rw [kind13] at h2
  have e : u = t := bool_same g2 h2 (by
    have e : (Or (One [59] (Many [110] (doL Nil))) (Many [110] (Or (One [107] (Many [87] (Or (One [59] (Many [110] (doL Nil))) (One [110] (Many [110] (doL Nil)))))) (doL Nil)))) =
        (Or (Or (Many [110] (One [107] (Many [87] (One [59] (Many [110] (doL Nil)))))) (Many [110] (One [107] (Many [87] (One [110] (Many [110] (doL Nil))))))) (Or (One [59] (Many [110] (doL Nil))) (Many [110] (doL Nil)))) := by
      funext s
      refine propext ?_
      have L := (lin_many [110]).comp ((lin_one [107]).comp (lin_many [87]))
      have e1 := L.or (One [59] (Many [110] (doL Nil))) (One [110] (Many [110] (doL Nil))) s
      have e2 := (lin_many [110]).or (One [107] (Many [87] (Or (One [59] (Many [110] (doL Nil))) (One [110] (Many [110] (doL Nil)))))) (doL Nil) s
      show _ ∨ Many [110] _ s ↔ (_ ∨ _) ∨ _ ∨ _
      rw [e2, e1]
      constructor
      · rintro (h | (h | h) | h)
        · exact .inr (.inl h)
        · exact .inl (.inl h)
        · exact .inl (.inr h)
        · exact .inr (.inr h)
      · rintro ((h | h) | h | h)
        · exact .inr (.inl (.inl h))
        · exact .inr (.inl (.inr h))
        · exact .inl h
        · exact .inr (.inr h)
    rw [e])
  subst e
  refine ⟨u, ?_, h1⟩
  rw [← g1, fn53]
  simp only [show eqI 13 1 = false from rfl, show eqI 13 2 = false from rfl, show eqI 13 3 = false from rfl, show eqI 13 4 = false from rfl, show eqI 13 5 = false from rfl, show eqI 13 8 = false from rfl, cond_true, cond_false]
  rw [fn68]
  simp only [show eqI 13 9 = false from rfl, show eqI 13 10 = false from rfl, show eqI 13 11 = false from rfl, show eqI 13 12 = false from rfl, show eqI 13 13 = true from rfl, cond_true, cond_false]
  rfl

theorem same14 : ∃ t, fn53 14 row = some (t, ()) ∧ fn31 14 row = some (t, ()) := by
  obtain ⟨t, h1, h2⟩ := form14 hr
  have hs := spec_seq (spec_case (show 99999 < 1000000 by decide)) (spec_ret (mk := mk0)) fun Q h => h
  obtain ⟨u, g1, g2⟩ := told' (m := 99999) hs row (by omega)
  rw [kind14] at h2
  have e : u = t := bool_same g2 h2 (Iff.rfl)
  subst e
  refine ⟨u, ?_, h1⟩
  rw [← g1, fn53]
  simp only [show eqI 14 1 = false from rfl, show eqI 14 2 = false from rfl, show eqI 14 3 = false from rfl, show eqI 14 4 = false from rfl, show eqI 14 5 = false from rfl, show eqI 14 8 = false from rfl, cond_true, cond_false]
  rw [fn68]
  simp only [show eqI 14 9 = false from rfl, show eqI 14 10 = false from rfl, show eqI 14 11 = false from rfl, show eqI 14 12 = false from rfl, show eqI 14 13 = false from rfl, show eqI 14 14 = true from rfl, cond_true, cond_false]
  rfl

theorem same15 : ∃ t, fn53 15 row = some (t, ()) ∧ fn31 15 row = some (t, ()) := by
  obtain ⟨t, h1, h2⟩ := form15 hr
  have hs := spec_seq (spec_item (show 99999 < 1000000 by decide)) (spec_ret (mk := mk0)) fun Q h => h
  obtain ⟨u, g1, g2⟩ := told' (m := 99999) hs row (by omega)
  rw [kind15] at h2
  have e : u = t := bool_same g2 h2 (by
    have e : ∀ P Q : Lg, Or P Q = Or Q P := fun P Q => funext fun s => propext or_comm
    rw [e (One [76] Nil), e (One [40] _)])
  subst e
  refine ⟨u, ?_, h1⟩
  rw [← g1, fn53]
  simp only [show eqI 15 1 = false from rfl, show eqI 15 2 = false from rfl, show eqI 15 3 = false from rfl, show eqI 15 4 = false from rfl, show eqI 15 5 = false from rfl, show eqI 15 8 = false from rfl, cond_true, cond_false]
  rw [fn68]
  simp only [show eqI 15 9 = false from rfl, show eqI 15 10 = false from rfl, show eqI 15 11 = false from rfl, show eqI 15 12 = false from rfl, show eqI 15 13 = false from rfl, show eqI 15 14 = false from rfl, show eqI 15 15 = true from rfl, cond_true, cond_false]
  rfl

theorem same16 : ∃ t, fn53 16 row = some (t, ()) ∧ fn31 16 row = some (t, ()) := by
  obtain ⟨t, h1, h2⟩ := form16 hr
  have hs := spec_seq (spec_must (m := 99999) [[87], [40], [41]] (by simp)) (spec_seq (spec_many [110] (show 99999 < 1000000 by decide)) (spec_seq (spec_must1 cmpS) (spec_ret (mk := mk0) (S := [])) fun Q _ => apart_nil _) fun Q _ => apart_one _ (by decide)) fun Q _ => apart_nil _
  obtain ⟨u, g1, g2⟩ := told' (m := 99999) hs row (by omega)
  rw [kind16] at h2
  have e : u = t := bool_same g2 h2 (Iff.rfl)
  subst e
  refine ⟨u, ?_, h1⟩
  rw [← g1, fn53]
  simp only [show eqI 16 1 = false from rfl, show eqI 16 2 = false from rfl, show eqI 16 3 = false from rfl, show eqI 16 4 = false from rfl, show eqI 16 5 = false from rfl, show eqI 16 8 = false from rfl, cond_true, cond_false]
  rw [fn68]
  simp only [show eqI 16 9 = false from rfl, show eqI 16 10 = false from rfl, show eqI 16 11 = false from rfl, show eqI 16 12 = false from rfl, show eqI 16 13 = false from rfl, show eqI 16 14 = false from rfl, show eqI 16 15 = false from rfl, show eqI 16 16 = true from rfl, cond_true, cond_false]
  rfl

theorem same5 : ∃ t, fn53 5 row = some (t, ()) ∧ fn31 5 row = some (t, ()) := by
  obtain ⟨t, h1, h2⟩ := form5 hr
  rw [kind5] at h2
  have hs := spec_seq (spec_many [88, 82] (show 99999 < 1000000 by decide)) (spec_if (T := [87]) (spec_seq (spec_many [87, 82] (show 99999 < 1000000 by decide)) (spec_ret (mk := mk0) (S := [87, 82, 88])) fun Q hQ => hQ.sub (by decide)) (spec_ret (mk := mk0) (S := [87, 82, 88])) fun Q hQ => hQ.sub (by decide)) fun Q hQ => apart_or (apart_one _ (by decide)) (hQ.sub (by decide))
  by_cases h0 : row = []
  · subst h0
    have : t = false := by
      cases t
      · rfl
      · exact absurd rfl (h2.1 rfl).1
    subst this
    exact ⟨false, rfl, h1⟩
  · obtain ⟨u, g1, g2⟩ := told' (m := 99999) hs row (by omega)
    have e : u = t := bool_same g2 h2 (by
      simp only [(lin_many [88, 82]).or]
      exact ⟨fun h => ⟨h0, h.symm⟩, fun h => h.2.symm⟩)
    subst e
    refine ⟨u, ?_, h1⟩
    rw [← g1, fn53]
    simp only [show eqI 5 1 = false from rfl, show eqI 5 2 = false from rfl, show eqI 5 3 = false from rfl, show eqI 5 4 = false from rfl, show eqI 5 5 = true from rfl, cond_true, cond_false]
    rw [fn66, show eqS row [] = false by simpa [eqS] using h0, rSeq_assoc]
    unfold rSeq rIf
    simp only [obind_obind, obind_some, obind_cond]
    rfl

theorem same_form (k : Int) : ∃ t, fn53 k row = some (t, ()) ∧ fn31 k row = some (t, ()) := by
  by_cases h1 : k = 1
  · subst h1; exact same1 hr
  by_cases h2 : k = 2
  · subst h2; exact same2 hr
  by_cases h3 : k = 3
  · subst h3; exact same3 hr
  by_cases h4 : k = 4
  · subst h4; exact same4 hr
  by_cases h5 : k = 5
  · subst h5; exact same5 hr
  by_cases h8 : k = 8
  · subst h8; exact same8 hr
  by_cases h9 : k = 9
  · subst h9; exact same9 hr
  by_cases h10 : k = 10
  · subst h10; exact same10 hr
  by_cases h11 : k = 11
  · subst h11; exact same11 hr
  by_cases h12 : k = 12
  · subst h12; exact same12 hr
  by_cases h13 : k = 13
  · subst h13; exact same13 hr
  by_cases h14 : k = 14
  · subst h14; exact same14 hr
  by_cases h15 : k = 15
  · subst h15; exact same15 hr
  by_cases h16 : k = 16
  · subst h16; exact same16 hr
  refine ⟨false, ?_, ?_⟩
  · rw [fn53]
    simp only [eqI_f h1, eqI_f h2, eqI_f h3, eqI_f h4, eqI_f h5, eqI_f h8, cond_false]
    rw [fn68]
    simp only [eqI_f h9, eqI_f h10, eqI_f h11, eqI_f h12, eqI_f h13, eqI_f h14, eqI_f h15, eqI_f h16, cond_false]
    rfl
  · obtain ⟨y0, a0, b0, c0⟩ := places_begin hr
    rw [fn31, a0, obind_some]
    simp only [eqI_f h1, eqI_f h2, eqI_f h3, eqI_f h4, eqI_f h5, eqI_f h8, eqI_f h9, eqI_f h10, eqI_f h11, eqI_f h12, eqI_f h13, eqI_f h14, eqI_f h15, eqI_f h16, cond_false]
end
end Go.Proofs.Ytkloefipjbeneaa
