/-
  Which nodes fit: the program and the document say the same.
-/
import Derived.Test.YtkloefipjbeneaaRl
import Derived.Test.YtkloefipjbeneaaRi
namespace Go.Proofs.Ytkloefipjbeneaa
open Go.RowKit
set_option linter.unusedVariables false
set_option linter.unusedSimpArgs false
set_option maxRecDepth 100000

theorem firstK_short {l : List Nd} {lv : List Lf} (hs : shortL lv) : ∀ ks : List Int, (∀ k ∈ ks, Bd l lv.length k) → ((firstK l lv ks).getD (0, ([], (0, (0, ()))))).2.1.length ≤ 60
  | [], _ => by simp [firstK]
  | k :: ks, h => by
    rw [firstK]
    have hb := h k List.mem_cons_self
    unfold Bd at hb
    by_cases c : isW l k = true
    · rw [if_pos c]
      simp only [isW, decide_eq_true_eq] at c
      exact lf_short hs (by omega) (by omega)
    · rw [if_neg c]; exact firstK_short hs ks fun x hx => h x (List.mem_cons_of_mem _ hx)

theorem eqb60 (c : UInt8) (d : UInt8) : eqI ((c.toNat : Nat) : Int) ((d.toNat : Nat) : Int) = eqS [c] [d] := by
  by_cases h : c = d
  · rw [eqI_t (by rw [h]), eqS_t (by rw [h])]
  · rw [eqI_f (fun h' => h (UInt8.toNat_inj.1 (by omega))), eqS_f (by simpa using h)]

/-- the others conditions, of a node with such a first word -/
def besB (l : List Nd) (lv : List Lf) (i : Int) (w : List UInt8) (some' : Bool) : Bool :=
  let n := nd l i
  if n.kind = 5 then !(eqI (lf lv n.fro).1 6 && resW.contains (lf lv n.fro).2.1) && (!asg w && (eqI n.too lv.length || (!eqI (lf lv n.too).1 6 && (!eqI (lf lv n.too).1 5 && !eqS [sgn (lf lv n.too)] [60]))))
  else if n.kind = 16 then decide (nl w ≠ 0 ∧ nl w = w.length) && !resW.contains w
  else if n.kind = 13 then decide (nl w ≠ 0 ∧ nl w = w.length)
  else if n.kind = 15 then eqS [sgn (lf lv n.fro)] [40] || !eqS w [101, 115, 97, 99]
  else true

section
variable {lv : List Lf} {l : List Nd} (hs : shortL lv) (hR : Rt l lv.length) (hl : l.length ≤ 60) {i : Nat} (hi : i < l.length)
include hs hR hl hi

theorem bes_ref (hft : (nd l (i : Int)).fro < (nd l (i : Int)).too ∨ (nd l (i : Int)).kind = 1) :
    lp16_800010 lv l (i : Int) (nd l (i : Int)).kind (nd l (i : Int)).fro (nd l (i : Int)).too (nd l (i : Int)).up = some (.inr ((besB l lv (i : Int) ((firstK l lv (kidsOf l i)).getD (0, ([], (0, (0, ()))))).2.1 true, ()), ())) := by
  have hb := bounds hR l.length i hi hi
  unfold Bd at hb
  have hw := firstK_short hs (kidsOf l i) (kids_bd hR hi)
  generalize hwd : ((firstK l lv (kidsOf l i)).getD (0, ([], (0, (0, ()))))).2.1 = w at hw
  have hfr := first_ref hR hl hi
  rw [lp16_800010, st16_800010, hfr, obind_some]
  simp only
  rw [hwd]
  unfold besB
  simp only
  by_cases h5 : (nd l (i : Int)).kind = 5
  · have hlt : (nd l (i : Int)).fro < (nd l (i : Int)).too := by omega
    have hin : inI lv (nd l (i : Int)).fro = true := inI_t (by omega) (by omega)
    obtain ⟨n, ha, ha2, _⟩ := assign_ref (s := w) (by omega)
    have tail : (bif ltI 0 n then some (.inr ((false, ()), ()) : pa16_800010.den ⊕ pb16_800010.den) else
        bif eqI (nd l (i : Int)).too (lenI lv) then some (.inr ((true, ()), ())) else
        bif inI lv (nd l (i : Int)).too then
          bif !eqI (lf lv (nd l (i : Int)).too).1 6 then
            bif inI lv (nd l (i : Int)).too then
              bif !eqI (lf lv (nd l (i : Int)).too).1 5 then
                bif inI lv (nd l (i : Int)).too then
                  obind (fn11 (lf lv (nd l (i : Int)).too)) fun y3 => some (.inr ((!eqS y3.1 [60], ()), ()))
                else none
              else some (.inr ((false, ()), ()))
            else none
          else some (.inr ((false, ()), ()))
        else none) = some (.inr ((!asg w && (eqI (nd l (i : Int)).too lv.length || (!eqI (lf lv (nd l (i : Int)).too).1 6 && (!eqI (lf lv (nd l (i : Int)).too).1 5 && !eqS [sgn (lf lv (nd l (i : Int)).too)] [60]))), ()), ())) := by
      rw [ha2]
      cases asg w with
      | true => rfl
      | false =>
        simp only [cond_false, Bool.not_false, Bool.true_and]
        by_cases e : (nd l (i : Int)).too = lv.length
        · rw [bif_t (eqI_t (by rw [lenI_eq]; exact e)), eqI_t e]; rfl
        · have hin2 : inI lv (nd l (i : Int)).too = true := inI_t (by omega) (by omega)
          rw [bif_f (eqI_f (by rw [lenI_eq]; exact e)), eqI_f e, hin2, (sgn_eq (lf_short hs (by omega) (by omega))).2]
          simp only [cond_true, Bool.false_or, obind_some]
          cases eqI (lf lv (nd l (i : Int)).too).1 6 with
          | true => rfl
          | false =>
            cases eqI (lf lv (nd l (i : Int)).too).1 5 with
            | true => rfl
            | false => rfl
    rw [bif_t (eqI_t h5), if_pos h5, hin]
    simp only [cond_true]
    rw [res_ref (lf_short hs (by omega) (by omega)), obind_some, ha, obind_some]
    simp only
    cases h6 : eqI (lf lv (nd l (i : Int)).fro).1 6 with
    | true =>
      simp only [cond_true, Bool.true_and]
      cases resW.contains (lf lv (nd l (i : Int)).fro).2.1 with
      | true => rfl
      | false => exact tail
    | false => exact tail
  rw [bif_f (eqI_f h5), if_neg h5]
  by_cases h16 : (nd l (i : Int)).kind = 16
  · rw [bif_t (eqI_t h16), if_pos h16, isname_ref (by omega), obind_some, res_ref hw, obind_some]
    simp only
    cases decide (nl w ≠ 0 ∧ nl w = w.length) <;> rfl
  rw [bif_f (eqI_f h16), if_neg h16]
  by_cases h13 : (nd l (i : Int)).kind = 13
  · rw [bif_t (eqI_t h13), if_pos h13, isname_ref (by omega), obind_some]
  rw [bif_f (eqI_f h13), if_neg h13]
  by_cases h15 : (nd l (i : Int)).kind = 15
  · have hin : inI lv (nd l (i : Int)).fro = true := inI_t (by omega) (by omega)
    rw [bif_t (eqI_t h15), if_pos h15, hin, (sgn_eq (lf_short hs (by omega) (by omega))).2]
    simp only [cond_true, obind_some]
    cases eqS [sgn (lf lv (nd l (i : Int)).fro)] [40] <;> rfl
  rw [bif_f (eqI_f h15), if_neg h15]

theorem max_prog (h5 : (nd l (i : Int)).kind = 5) (hft : (nd l (i : Int)).fro < (nd l (i : Int)).too) :
    fn73 lv l (i : Int) = some (besB l lv (i : Int) ((firstK l lv (kidsOf l i)).getD (0, ([], (0, (0, ()))))).2.1 true, ()) := by
  have hb := bounds hR l.length i hi hi
  unfold Bd at hb
  have hw := firstK_short hs (kidsOf l i) (kids_bd hR hi)
  have hin : inI lv (nd l (i : Int)).fro = true := inI_t (by omega) (by omega)
  have last : (obind (fn72 lv l (i : Int)) fun y2 => bif !y2.2.1 then some (true, ()) else obind (fn52 (y2.1.1, (y2.1.2.1, (y2.1.2.2.1, (y2.1.2.2.2.1, ()))))) fun y3 => some (!y3.1, ())) =
      some (!asg ((firstK l lv (kidsOf l i)).getD (0, ([], (0, (0, ()))))).2.1, ()) := by
    rw [first_prog hR hl hi, obind_some]
    cases hf : firstK l lv (kidsOf l i) with
    | none => rfl
    | some f =>
      rw [hf] at hw
      obtain ⟨x, y, h⟩ := assign_prog (s := f.2.1) (by have : f.2.1.length ≤ 60 := hw; omega)
      simp only [Bool.not_true, cond_false]
      rw [fn52]
      simp only
      rw [h]
      rfl
  generalize hwd : ((firstK l lv (kidsOf l i)).getD (0, ([], (0, (0, ()))))).2.1 = w at hw last
  have tail : (bif ltI (nd l (i : Int)).too (lenI lv) then
      bif inI lv (nd l (i : Int)).too then
        bif eqI (lf lv (nd l (i : Int)).too).1 6 then some (false, ()) else
        bif eqI (lf lv (nd l (i : Int)).too).1 5 then some (false, ()) else
        obind (fn10 (lf lv (nd l (i : Int)).too)) fun y1 =>
          bif eqI y1.1 60 then some (false, ()) else
          obind (fn72 lv l (i : Int)) fun y2 => bif !y2.2.1 then some (true, ()) else obind (fn52 (y2.1.1, (y2.1.2.1, (y2.1.2.2.1, (y2.1.2.2.2.1, ()))))) fun y3 => some (!y3.1, ())
      else none
    else obind (fn72 lv l (i : Int)) fun y2 => bif !y2.2.1 then some (true, ()) else obind (fn52 (y2.1.1, (y2.1.2.1, (y2.1.2.2.1, (y2.1.2.2.2.1, ()))))) fun y3 => some (!y3.1, ())) =
      some (!asg w && (eqI (nd l (i : Int)).too lv.length || (!eqI (lf lv (nd l (i : Int)).too).1 6 && (!eqI (lf lv (nd l (i : Int)).too).1 5 && !eqS [sgn (lf lv (nd l (i : Int)).too)] [60]))), ()) := by
    rw [last]
    by_cases e : (nd l (i : Int)).too = lv.length
    · rw [bif_f (ltI_n (by rw [lenI_eq]; omega)), eqI_t e, Bool.true_or, Bool.and_true]
    · have hin2 : inI lv (nd l (i : Int)).too = true := inI_t (by omega) (by omega)
      rw [bif_t (ltI_t (by rw [lenI_eq]; omega)), hin2, eqI_f e, (sgn_eq (lf_short hs (by omega) (by omega))).1]
      simp only [cond_true, obind_some, Bool.false_or]
      have e60 := eqb60 (sgn (lf lv (nd l (i : Int)).too)) 60
      rw [show (((60 : UInt8).toNat : Nat) : Int) = 60 from rfl] at e60
      rw [e60]
      cases eqI (lf lv (nd l (i : Int)).too).1 6 with
      | true => simp
      | false =>
        cases eqI (lf lv (nd l (i : Int)).too).1 5 with
        | true => simp
        | false =>
          cases eqS [sgn (lf lv (nd l (i : Int)).too)] [60] with
          | true => simp
          | false => simp
  have eB : besB l lv (i : Int) w true = (!(eqI (lf lv (nd l (i : Int)).fro).1 6 && resW.contains (lf lv (nd l (i : Int)).fro).2.1) && (!asg w && (eqI (nd l (i : Int)).too lv.length || (!eqI (lf lv (nd l (i : Int)).too).1 6 && (!eqI (lf lv (nd l (i : Int)).too).1 5 && !eqS [sgn (lf lv (nd l (i : Int)).too)] [60]))))) := by
    unfold besB; simp only; rw [if_pos h5]
  rw [eB, fn73, bif_t (inI_t (by omega) (by omega))]
  refine (bif_t hin).trans ?_
  rw [res_prog, obind_some]
  simp only
  cases h6 : eqI (lf lv (nd l (i : Int)).fro).1 6 with
  | true =>
    simp only [cond_true, Bool.true_and]
    cases resW.contains (lf lv (nd l (i : Int)).fro).2.1 with
    | true => rfl
    | false => exact tail
  | false => exact tail

theorem bes_prog (hft : (nd l (i : Int)).fro < (nd l (i : Int)).too ∨ (nd l (i : Int)).kind = 1) : ∃ d : Int, fn23 l (i : Int) = some (d, ()) ∧
    fn55 lv l (i : Int) = some (bif nests (nd l (i : Int)).kind && leI 200 d then false else besB l lv (i : Int) ((firstK l lv (kidsOf l i)).getD (0, ([], (0, (0, ()))))).2.1 true, ()) := by
  have hb := bounds hR l.length i hi hi
  unfold Bd at hb
  have hw := firstK_short hs (kidsOf l i) (kids_bd hR hi)
  obtain ⟨d, hd1, hd2⟩ := deep_eq (by omega) hR hi
  refine ⟨d, hd2, ?_⟩
  have main : ∀ y1 : (Int × List UInt8 × Int × Int × Unit) × Bool × Unit, y1.1.2.1 = ((firstK l lv (kidsOf l i)).getD (0, ([], (0, (0, ()))))).2.1 →
      (bif eqI (nd l (i : Int)).kind 5 then obind (fn73 lv l (i : Int)) fun y2 => some (y2.1, ()) else
       bif eqI (nd l (i : Int)).kind 16 then obind (fn74 y1.1.2.1) fun y2 => bif y2.1 then obind (fn75 y1.1.2.1) fun y3 => some (!y3.1, ()) else some (false, ()) else
       bif eqI (nd l (i : Int)).kind 13 then obind (fn74 y1.1.2.1) fun y2 => some (y2.1, ()) else
       bif eqI (nd l (i : Int)).kind 15 then
         bif inI lv (nd l (i : Int)).fro then obind (fn10 (lf lv (nd l (i : Int)).fro)) fun y2 => bif eqI y2.1 40 then some (true, ()) else some (!eqS y1.1.2.1 [101, 115, 97, 99], ()) else none
       else some (true, ())) = some (besB l lv (i : Int) ((firstK l lv (kidsOf l i)).getD (0, ([], (0, (0, ()))))).2.1 true, ()) := by
    intro y1 hy
    rw [hy]
    by_cases h5 : (nd l (i : Int)).kind = 5
    · rw [bif_t (eqI_t h5), max_prog hs hR hl hi h5 (by omega)]
      rfl
    generalize ((firstK l lv (kidsOf l i)).getD (0, ([], (0, (0, ()))))).2.1 = w at hw
    unfold besB
    simp only
    rw [bif_f (eqI_f h5), if_neg h5]
    by_cases h16 : (nd l (i : Int)).kind = 16
    · rw [bif_t (eqI_t h16), if_pos h16, isname_prog (by omega), obind_some, res_prog, obind_some]
      simp only
      cases decide (nl w ≠ 0 ∧ nl w = w.length) <;> rfl
    rw [bif_f (eqI_f h16), if_neg h16]
    by_cases h13 : (nd l (i : Int)).kind = 13
    · rw [bif_t (eqI_t h13), if_pos h13, isname_prog (by omega), obind_some]
    rw [bif_f (eqI_f h13), if_neg h13]
    by_cases h15 : (nd l (i : Int)).kind = 15
    · have hin : inI lv (nd l (i : Int)).fro = true := inI_t (by omega) (by omega)
      have e40 := eqb60 (sgn (lf lv (nd l (i : Int)).fro)) 40
      rw [show (((40 : UInt8).toNat : Nat) : Int) = 40 from rfl] at e40
      rw [bif_t (eqI_t h15), if_pos h15, hin, (sgn_eq (lf_short hs (by omega) (by omega))).1]
      simp only [cond_true, obind_some]
      rw [e40]
      cases eqS [sgn (lf lv (nd l (i : Int)).fro)] [40] <;> rfl
    rw [bif_f (eqI_f h15), if_neg h15]
  have y72 : ∃ y, fn72 lv l (i : Int) = some y ∧ y.1.2.1 = ((firstK l lv (kidsOf l i)).getD (0, ([], (0, (0, ()))))).2.1 := by
    rw [first_prog hR hl hi]
    cases firstK l lv (kidsOf l i) with
    | none => exact ⟨_, rfl, rfl⟩
    | some f => exact ⟨_, rfl, rfl⟩
  obtain ⟨y, hy1, hy2⟩ := y72
  have hLt : inI ([63, 80, 76, 65, 73, 83, 88, 87, 82, 66, 85, 70, 72, 79, 67, 84, 78, 69, 77] : List UInt8) (nd l (i : Int)).kind = true := inI_t (by omega) (by simp only [List.length_cons, List.length_nil]; omega)
  rw [fn55, bif_t (inI_t (by omega) (by omega))]
  refine (bif_t hLt).trans ?_
  rw [fn39, fn58, obind_some, obind_some]
  simp only
  rw [nest_eq (k := (nd l (i : Int)).kind) hb.2.2.2.2.2.1 hb.2.2.2.2.2.2]
  cases hn : nests (nd l (i : Int)).kind with
  | true =>
    simp only [cond_true, Bool.true_and]
    rw [hd1, obind_some, hy1, obind_some]
    simp only
    cases leI 200 d with
    | true => rfl
    | false => exact main y hy2
  | false =>
    simp only [cond_false, Bool.false_and]
    rw [hy1, obind_some]
    exact main y hy2

/-- a word or an assignment -/
def wordB (l : List Nd) (lv : List Lf) (i : Nat) : Bool :=
  eqI (nd l (i : Int)).too ((nd l (i : Int)).fro + 1) && (decide (¬ 0 < (kidsOf l i).length) && (eqI (lf lv (nd l (i : Int)).fro).1 6 && (eqI (nd l (i : Int)).kind 7 || asg (lf lv (nd l (i : Int)).fro).2.1)))

theorem word_prog (h6 : (nd l (i : Int)).kind = 6 ∨ (nd l (i : Int)).kind = 7) (hft : (nd l (i : Int)).fro < (nd l (i : Int)).too) :
    (bif (!(eqI (subK .i64 (nd l (i : Int)).too (nd l (i : Int)).fro) 1)) then some (false, ()) else
      obind (fn51 l (i : Int)) fun y0 =>
        bif (ltI 0 (lenI y0.1)) then some (false, ()) else
        bif (inI lv (nd l (i : Int)).fro) then
          bif (!(eqI (lf lv (nd l (i : Int)).fro).1 6)) then some (false, ()) else
          bif (eqI (nd l (i : Int)).kind 7) then some (true, ()) else
          bif (inI lv (nd l (i : Int)).fro) then
            obind (fn52 (lf lv (nd l (i : Int)).fro)) fun y1 => some (y1.1, ())
          else none
        else none) = some (wordB l lv i, ()) := by
  have hb := bounds hR l.length i hi hi
  unfold Bd at hb
  have hin : inI lv (nd l (i : Int)).fro = true := inI_t (by omega) (by omega)
  have hh := hs.1
  unfold wordB
  rw [subK_eq (by omega) (by omega)]
  by_cases e : (nd l (i : Int)).too = (nd l (i : Int)).fro + 1
  · rw [eqI_t e, show eqI ((nd l (i : Int)).too - (nd l (i : Int)).fro) 1 = true from eqI_t (by omega)]
    simp only [Bool.not_true, cond_false, Bool.true_and]
    rw [fn21_eq (by omega), if_pos (by omega), kids_eq (hR.2.2.2.2.ups hR.2.1) hi, obind_some]
    simp only
    by_cases k : 0 < (kidsOf l i).length
    · rw [bif_t (ltI_t (by rw [lenI_eq]; omega)), decide_eq_false (by simp; exact List.length_pos_iff.1 k)]; rfl
    · rw [bif_f (ltI_n (by rw [lenI_eq]; omega)), decide_eq_true k, hin]
      obtain ⟨x, y, h⟩ := assign_prog (s := (lf lv (nd l (i : Int)).fro).2.1) (by have := lf_short hs (i := (nd l (i : Int)).fro) (by omega) (by omega); omega)
      rw [fn52, h]
      simp only [cond_true, obind_some, Bool.true_and]
      cases eqI (lf lv (nd l (i : Int)).fro).1 6 with
      | false => rfl
      | true => cases eqI (nd l (i : Int)).kind 7 <;> rfl
  · rw [eqI_f e, show eqI ((nd l (i : Int)).too - (nd l (i : Int)).fro) 1 = false from eqI_f (by omega)]
    rfl

/-- does a node fit? -/
theorem fits_same : ∃ b, fn36 lv l (i : Int) = some (b, ()) ∧ fn16 lv l (i : Int) = some (b, ()) := by
  have hb := bounds hR l.length i hi hi
  unfold Bd at hb
  have hini : inI l (i : Int) = true := inI_t (by omega) (by omega)
  have hh := hs.1
  rw [fn36, bif_t hini, fn16, bif_t hini]
  by_cases hk1 : (nd l (i : Int)).kind ≠ 1 ∧ (nd l (i : Int)).fro = (nd l (i : Int)).too
  · exact ⟨false, by rw [bif_t (eqI_t hk1.2), bif_t (by rw [eqI_f hk1.1]; rfl)], by rw [bif_t (by rw [eqI_f hk1.1]; rfl), bif_t (eqI_t hk1.2)]⟩
  have hft : (nd l (i : Int)).fro < (nd l (i : Int)).too ∨ (nd l (i : Int)).kind = 1 := by
    by_cases c : (nd l (i : Int)).kind = 1
    · exact .inr c
    · exact .inl (by have : ¬ (nd l (i : Int)).fro = (nd l (i : Int)).too := fun h => hk1 ⟨c, h⟩; omega)
  -- the document's
  obtain ⟨b, hb1, hb2⟩ : ∃ b, lp16_800004 lv l (i : Int) (nd l (i : Int)).kind (nd l (i : Int)).fro (nd l (i : Int)).too (nd l (i : Int)).up = some (.inr ((b, ()), ())) ∧ fn36 lv l (i : Int) = some (b, ()) := by
    have hin : (nd l (i : Int)).fro < (nd l (i : Int)).too → inI lv (nd l (i : Int)).fro = true := fun h => inI_t (by omega) (by omega)
    by_cases h67 : (nd l (i : Int)).kind = 6 ∨ (nd l (i : Int)).kind = 7
    · have hlt : (nd l (i : Int)).fro < (nd l (i : Int)).too := by omega
      refine ⟨wordB l lv i, ?_, ?_⟩
      · obtain ⟨n, ha, ha2, _⟩ := assign_ref (s := (lf lv (nd l (i : Int)).fro).2.1) (by have := lf_short hs (i := (nd l (i : Int)).fro) (by omega) (by omega); omega)
        have body : (bif (!(eqI (nd l (i : Int)).too (addK .i64 (nd l (i : Int)).fro 1))) then some (.inr ((false, ()), ()) : pa16_800004.den ⊕ pb16_800004.den) else
            bif (ltI (addK .i64 (i : Int) 1) (lenI l)) then
              bif (inI l (addK .i64 (i : Int) 1)) then
                bif (eqI (nd l (addK .i64 (i : Int) 1)).up (i : Int)) then some (.inr ((false, ()), ())) else
                bif (inI lv (nd l (i : Int)).fro) then
                  bif (!(eqI (lf lv (nd l (i : Int)).fro).1 6)) then some (.inr ((false, ()), ())) else
                  bif (eqI (nd l (i : Int)).kind 7) then some (.inr ((true, ()), ())) else
                  bif (inI lv (nd l (i : Int)).fro) then
                    obind (fn20 (lf lv (nd l (i : Int)).fro).2.1) fun y0 => some (.inr ((ltI 0 y0.1, ()), ()))
                  else none
                else none
              else none
            else
            bif (inI lv (nd l (i : Int)).fro) then
              bif (!(eqI (lf lv (nd l (i : Int)).fro).1 6)) then some (.inr ((false, ()), ())) else
              bif (eqI (nd l (i : Int)).kind 7) then some (.inr ((true, ()), ())) else
              bif (inI lv (nd l (i : Int)).fro) then
                obind (fn20 (lf lv (nd l (i : Int)).fro).2.1) fun y0 => some (.inr ((ltI 0 y0.1, ()), ()))
              else none
            else none) = some (.inr ((wordB l lv i, ()), ())) := by
          have hkn := kids_next hR hi
          unfold wordB
          rw [addK_eq (by omega) (by omega), addK_eq (by omega) (by omega), hin hlt, ha]
          simp only [cond_true, obind_some]
          by_cases e : (nd l (i : Int)).too = (nd l (i : Int)).fro + 1
          · rw [eqI_t e]
            simp only [Bool.not_true, cond_false, Bool.true_and]
            rw [ha2]
            have fin : (bif (!(eqI (lf lv (nd l (i : Int)).fro).1 6)) then some (.inr ((false, ()), ()) : pa16_800004.den ⊕ pb16_800004.den) else
                bif (eqI (nd l (i : Int)).kind 7) then some (.inr ((true, ()), ())) else some (.inr ((asg (lf lv (nd l (i : Int)).fro).2.1, ()), ()))) =
                some (.inr ((eqI (lf lv (nd l (i : Int)).fro).1 6 && (eqI (nd l (i : Int)).kind 7 || asg (lf lv (nd l (i : Int)).fro).2.1), ()), ())) := by
              cases eqI (lf lv (nd l (i : Int)).fro).1 6 with
              | false => rfl
              | true => cases eqI (nd l (i : Int)).kind 7 <;> rfl
            by_cases k : i + 1 < l.length
            · rw [bif_t (ltI_t (by rw [lenI_eq]; omega)), bif_t (inI_t (by omega) (by omega))]
              by_cases u : (nd l ((i : Int) + 1)).up = (i : Int)
              · rw [bif_t (eqI_t u), decide_eq_false (p := ¬ 0 < (kidsOf l i).length) (fun h => h (hkn.2 ⟨k, u⟩))]; rfl
              · rw [bif_f (eqI_f u), decide_eq_true (p := ¬ 0 < (kidsOf l i).length) (fun h => u (hkn.1 h).2), Bool.true_and]; exact fin
            · rw [bif_f (ltI_n (by rw [lenI_eq]; omega)), decide_eq_true (p := ¬ 0 < (kidsOf l i).length) (fun h => k (hkn.1 h).1), Bool.true_and]; exact fin
          · rw [eqI_f e]; rfl
        rw [lp16_800004, st16_800004]
        rcases h67 with h6 | h7
        · rw [bif_t (eqI_t h6)]; exact body
        · rw [bif_f (eqI_f (show (nd l (i : Int)).kind ≠ 6 by omega)), bif_t (eqI_t h7)]; exact body
      · have hp := word_prog hs hR hl hi h67 hlt
        rw [fn36, bif_t hini, bif_f (eqI_f (show (nd l (i : Int)).fro ≠ (nd l (i : Int)).too by omega))]
        rcases h67 with h6 | h7
        · rw [bif_f (eqI_f (show (nd l (i : Int)).kind ≠ 7 by omega)), bif_t (eqI_t h6)]; exact hp
        · rw [bif_t (eqI_t h7)]; exact hp
    · obtain ⟨d, hd, hbes⟩ := bes_prog hs hR hl hi hft
      obtain ⟨t, ht1, ht2⟩ := same_form (row_len hs hR hl hi) (nd l (i : Int)).kind
      have hrf := bes_ref hs hR hl hi hft
      refine ⟨bif t then (bif nests (nd l (i : Int)).kind && leI 200 d then false else besB l lv (i : Int) ((firstK l lv (kidsOf l i)).getD (0, ([], (0, (0, ()))))).2.1 true) else false, ?_, ?_⟩
      · rw [lp16_800004, st16_800004, bif_f (eqI_f (show (nd l (i : Int)).kind ≠ 6 by omega)), bif_f (eqI_f (show (nd l (i : Int)).kind ≠ 7 by omega)), row_ref hs hR hl hi, obind_some, ht2, obind_some]
        simp only
        cases t with
        | false => rfl
        | true =>
          simp only [Bool.not_true, cond_false, cond_true]
          rw [fn33_eq, obind_some]
          simp only
          cases nests (nd l (i : Int)).kind with
          | true =>
            simp only [cond_true, Bool.true_and]
            rw [hd, obind_some]
            simp only
            cases leI 200 d with
            | true => rfl
            | false =>
              simp only [cond_false]
              rw [hrf]; rfl
          | false =>
            simp only [cond_false, Bool.false_and]
            rw [hrf]; rfl
      · have body : (obind (fn54 lv l (i : Int)) fun y0 => obind (fn53 (nd l (i : Int)).kind y0.1) fun y1 => bif y1.1 then obind (fn55 lv l (i : Int)) fun y2 => some (y2.1, ()) else some (false, ())) =
            some (bif t then (bif nests (nd l (i : Int)).kind && leI 200 d then false else besB l lv (i : Int) ((firstK l lv (kidsOf l i)).getD (0, ([], (0, (0, ()))))).2.1 true) else false, ()) := by
          rw [row_prog hs hR hl hi, obind_some, ht1, obind_some, hbes]
          cases t <;> rfl
        rw [fn36, bif_t hini]
        by_cases e : (nd l (i : Int)).fro = (nd l (i : Int)).too
        · rw [bif_t (eqI_t e), bif_f (show (!eqI (nd l (i : Int)).kind 1) = false by rw [eqI_t (show (nd l (i : Int)).kind = 1 by omega)]; rfl), bif_f (eqI_f (show (nd l (i : Int)).kind ≠ 7 by omega)), bif_f (eqI_f (show (nd l (i : Int)).kind ≠ 6 by omega))]; exact body
        · rw [bif_f (eqI_f e), bif_f (eqI_f (show (nd l (i : Int)).kind ≠ 7 by omega)), bif_f (eqI_f (show (nd l (i : Int)).kind ≠ 6 by omega))]; exact body
  refine ⟨b, by rw [fn36, bif_t hini] at hb2; exact hb2, ?_⟩
  by_cases c : (nd l (i : Int)).kind = 1
  · rw [bif_f (by rw [eqI_t c]; rfl), hb1]; rfl
  · rw [bif_t (by rw [eqI_f c]; rfl), bif_f (eqI_f (fun h => hk1 ⟨c, h⟩)), hb1]; rfl
end
end Go.Proofs.Ytkloefipjbeneaa
