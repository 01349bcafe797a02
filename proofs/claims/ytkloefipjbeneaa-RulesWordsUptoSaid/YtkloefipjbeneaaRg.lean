/-
  The sign of any leaf is as the document says.
-/
import Derived.Test.YtkloefipjbeneaaWb
namespace Go.Proofs.Ytkloefipjbeneaa
open Go.RowKit
set_option linter.unusedVariables false
set_option linter.unusedSimpArgs false
set_option maxRecDepth 100000

theorem eqS_iff {a b : List UInt8} : eqS a b = true ↔ a = b := by simp [eqS]
theorem eqS_f {a b : List UInt8} (h : a ≠ b) : eqS a b = false := by simp [eqS]; exact h
theorem eqS_t {a b : List UInt8} (h : a = b) : eqS a b = true := eqS_iff.2 h

def resW : List (List UInt8) := [[33], [123], [125], [99, 97, 115, 101], [100, 111], [100, 111, 110, 101], [101, 108, 105, 102], [101, 108, 115, 101], [101, 115, 97, 99], [102, 105], [102, 111, 114], [105, 102], [105, 110], [116, 104, 101, 110], [117, 110, 116, 105, 108], [119, 104, 105, 108, 101]]
def opT : List (List UInt8) := [[38, 38], [124, 124], [59, 59], [60, 60], [60, 60, 45], [62, 62], [60, 38], [62, 38], [60, 62], [62, 124], [60], [62], [38], [59], [124], [40], [41]]
def lineW : List UInt8 := [32, 33, 32, 123, 32, 125, 32, 99, 97, 115, 101, 32, 100, 111, 32, 100, 111, 110, 101, 32, 101, 108, 105, 102, 32, 101, 108, 115, 101, 32, 101, 115, 97, 99, 32, 102, 105, 32, 102, 111, 114, 32, 105, 102, 32, 105, 110, 32, 116, 104, 101, 110, 32, 117, 110, 116, 105, 108, 32, 119, 104, 105, 108, 101, 32]

/-- what stands in the line between two blanks, and has none itself -/
theorem line_parts : ∀ i : Fin 66, ∀ n : Fin 66, (sub lineW (i.val : Int) ((i.val : Int) + ((n.val : Int) + 2))).getD 0 0 = 32 →
    (sub lineW (i.val : Int) ((i.val : Int) + ((n.val : Int) + 2))).getD (n.val + 1) 0 = 32 →
    (((sub lineW (i.val : Int) ((i.val : Int) + ((n.val : Int) + 2))).drop 1).take n.val).contains 32 = false → n.val ≠ 0 → i.val + n.val + 2 ≤ 65 →
    resW.contains (((sub lineW (i.val : Int) ((i.val : Int) + ((n.val : Int) + 2))).drop 1).take n.val) = true := by decide +kernel

theorem in_loop (x : List UInt8) (hx : x.length ≤ 60) : ∀ (n k : Nat), k ≤ x.length → x.length - k < n →
    lp37_2 n 32 x (k : Int) = some (.inl ((), ())) ∧ (∀ j, k ≤ j → j < x.length → byteAt x (j : Int) ≠ 32) ∨ lp37_2 n 32 x (k : Int) = some (.inr ((true, ()), ()))
  | 0, k, h1, h2 => by omega
  | n + 1, k, h1, h2 => by
    rw [lp37_2]; unfold st37_2
    by_cases hk : k < x.length
    · rw [bif_t (ltI_t (by rw [lenI_eq]; omega)), bif_t (inI_t (by omega) (by omega))]
      by_cases hb : byteAt x (k : Int) = 32
      · right
        rw [bif_t (eqI_t hb)]
      · rw [bif_f (eqI_f hb), addK_eq (by omega) (by omega)]
        rcases in_loop x hx n (k + 1) (by omega) (by omega) with ⟨h, h'⟩ | h
        · left
          refine ⟨h, fun j hj hl => ?_⟩
          by_cases hjk : j = k
          · subst hjk; exact hb
          · exact h' j (by omega) hl
        · right; exact h
    · rw [bif_f (ltI_n (by rw [lenI_eq]; omega))]
      left
      exact ⟨rfl, fun j hj hl => by omega⟩

theorem no_blank {x : List UInt8} (h : ∀ j, 0 ≤ j → j < x.length → byteAt x ((j : Nat) : Int) ≠ 32) : x.contains 32 = false := by
  rw [Bool.eq_false_iff]
  intro hc
  rw [List.contains_iff_mem] at hc
  obtain ⟨j, hj, he⟩ := List.mem_iff_getElem.1 hc
  refine h j (by omega) hj ?_
  unfold byteAt
  rw [Int.toNat_natCast, List.getD_eq_getElem?_getD, List.getElem?_eq_getElem hj, he]
  rfl

theorem res_loop (x : List UInt8) (hx : x.length ≤ 60) (h0 : x.length ≠ 0) (hb : x.contains 32 = false) (hw : resW.contains x = false) : ∀ (n i : Nat), i ≤ 66 → 66 - i < n →
    lp19_5 n (catL (catL [32] x) [32]) (i : Int) = some (.inl ((), ()))
  | 0, i, h1, h2 => by omega
  | n + 1, i, h1, h2 => by
    have hl : (catL (catL [32] x) [32]).length = x.length + 2 := by simp [catL]
    rw [lp19_5]; unfold st19_5
    by_cases hi : i + x.length + 2 ≤ 65
    · rw [bif_t (leI_t (by rw [lenI_eq, hl, addK_eq (by omega) (by omega)]; omega))]
      rw [bif_t (partI_t (by omega) (by rw [lenI_eq, hl, addK_eq (by omega) (by omega)]; omega) (by rw [lenI_eq, lenI_eq, hl, addK_eq (by omega) (by omega)]; show _ ≤ (65 : Int); omega))]
      rw [bif_f (eqS_f ?_)]
      · rw [addK_eq (by omega) (by omega)]
        exact res_loop x hx h0 hb hw n (i + 1) (by omega) (by omega)
      · intro he
        rw [lenI_eq, hl, addK_eq (by omega) (by omega)] at he
        change sub lineW _ _ = _ at he
        have := line_parts ⟨i, by omega⟩ ⟨x.length, by omega⟩
        simp only [] at this
        have e2 : ((i : Int) + ((x.length : Nat) + 2 : Nat) : Int) = (i : Int) + ((x.length : Int) + 2) := by omega
        rw [e2] at he
        rw [he] at this
        have e3 : ((catL (catL [32] x) [32]).drop 1).take x.length = x := by simp [catL]
        rw [e3, hw] at this
        exact absurd (this (by simp [catL]) (by simp [catL]) hb h0 hi) (by decide)
    · rw [bif_f (leI_n (by rw [lenI_eq, hl, addK_eq (by omega) (by omega)]; omega))]

theorem res_not (x : List UInt8) (hx : x.length ≤ 60) (hw : resW.contains x = false) : fn19 x = some (false, ()) := by
  unfold fn19
  by_cases h0 : x.length = 0
  · rw [bif_t (eqI_t (by rw [lenI_eq, h0]; rfl))]
  rw [bif_f (eqI_f (by rw [lenI_eq]; omega))]
  unfold fn37
  rcases in_loop x hx fuelN 0 (by omega) (big_fuel (by omega)) with ⟨h, h'⟩ | h
  · rw [show (0 : Int) = ((0 : Nat) : Int) from rfl, h]
    simp only [obind_some, osum_inl, cond_false]
    rw [bif_t (show roomS [32] x = true by unfold roomS roomN; simp only [List.length_cons, List.length_nil, decide_eq_true_eq]; omega)]
    rw [bif_t (show roomS (catL [32] x) [32] = true by unfold roomS roomN catL; simp only [List.length_append, List.length_cons, List.length_nil, decide_eq_true_eq]; omega)]
    rw [res_loop x hx h0 (no_blank h') hw fuelN 0 (by omega) (big_fuel (by omega))]
    rfl
  · rw [show (0 : Int) = ((0 : Nat) : Int) from rfl, h]
    rfl

theorem op_texts : ∀ k : Fin 17, fn59 ((k.val : Int) + 1) = some (opT.getD k.val [], ()) ∧ fn28 ((k.val : Int) + 1) = some (opT.getD k.val [], ()) := by
  intro k
  match k with
  | ⟨0, _⟩ => exact ⟨by kernel_rfl, by kernel_rfl⟩
  | ⟨1, _⟩ => exact ⟨by kernel_rfl, by kernel_rfl⟩
  | ⟨2, _⟩ => exact ⟨by kernel_rfl, by kernel_rfl⟩
  | ⟨3, _⟩ => exact ⟨by kernel_rfl, by kernel_rfl⟩
  | ⟨4, _⟩ => exact ⟨by kernel_rfl, by kernel_rfl⟩
  | ⟨5, _⟩ => exact ⟨by kernel_rfl, by kernel_rfl⟩
  | ⟨6, _⟩ => exact ⟨by kernel_rfl, by kernel_rfl⟩
  | ⟨7, _⟩ => exact ⟨by kernel_rfl, by kernel_rfl⟩
  | ⟨8, _⟩ => exact ⟨by kernel_rfl, by kernel_rfl⟩
  | ⟨9, _⟩ => exact ⟨by kernel_rfl, by kernel_rfl⟩
  | ⟨10, _⟩ => exact ⟨by kernel_rfl, by kernel_rfl⟩
  | ⟨11, _⟩ => exact ⟨by kernel_rfl, by kernel_rfl⟩
  | ⟨12, _⟩ => exact ⟨by kernel_rfl, by kernel_rfl⟩
  | ⟨13, _⟩ => exact ⟨by kernel_rfl, by kernel_rfl⟩
  | ⟨14, _⟩ => exact ⟨by kernel_rfl, by kernel_rfl⟩
  | ⟨15, _⟩ => exact ⟨by kernel_rfl, by kernel_rfl⟩
  | ⟨16, _⟩ => exact ⟨by kernel_rfl, by kernel_rfl⟩
  | ⟨n + 17, h⟩ => exact absurd h (by omega)

theorem op_ne {x : List UInt8} (hw : opT.contains x = false) {k : Nat} (hk : k < 17) : opT.getD k [] ≠ x := by
  rintro rfl
  rw [Bool.eq_false_iff] at hw
  apply hw
  rw [List.contains_iff_mem, List.getD_eq_getElem?_getD, List.getElem?_eq_getElem (show k < opT.length from hk)]
  exact List.getElem_mem _

theorem of_loop (x : List UInt8) (hw : opT.contains x = false) : ∀ (n k : Nat), k ≤ 17 → 17 - k < n → lp40_4 n x ((k : Int) + 1) = some (.inl ((), ()))
  | 0, k, h1, h2 => by omega
  | n + 1, k, h1, h2 => by
    rw [lp40_4]; unfold st40_4
    by_cases hk : k < 17
    · rw [bif_t (leI_t (by omega)), (op_texts ⟨k, hk⟩).1, obind_some, bif_f (eqS_f (op_ne hw hk)), addK_eq (by omega) (by omega)]
      exact of_loop x hw n (k + 1) (by omega) (by omega)
    · rw [bif_f (leI_n (by omega))]
theorem si_loop (x : List UInt8) (hw : opT.contains x = false) (a b c : Int) : ∀ (n k : Nat), k ≤ 17 → 17 - k < n → lp11_7 n ((k : Int) + 1) a x b c = some (.inl ((), ()))
  | 0, k, h1, h2 => by omega
  | n + 1, k, h1, h2 => by
    rw [lp11_7]; unfold st11_7
    by_cases hk : k < 17
    · rw [bif_t (leI_t (by omega)), (op_texts ⟨k, hk⟩).2, obind_some, bif_f (eqS_f (op_ne hw hk)), addK_eq (by omega) (by omega)]
      exact si_loop x hw a b c n (k + 1) (by omega) (by omega)
    · rw [bif_f (leI_n (by omega))]

theorem mem_res {x : List UInt8} (h : resW.contains x = true) : x = [33] ∨ x = [123] ∨ x = [125] ∨ x = [99, 97, 115, 101] ∨ x = [100, 111] ∨ x = [100, 111, 110, 101] ∨ x = [101, 108, 105, 102] ∨ x = [101, 108, 115, 101] ∨ x = [101, 115, 97, 99] ∨ x = [102, 105] ∨ x = [102, 111, 114] ∨ x = [105, 102] ∨ x = [105, 110] ∨ x = [116, 104, 101, 110] ∨ x = [117, 110, 116, 105, 108] ∨ x = [119, 104, 105, 108, 101] := by
  rw [List.contains_iff_mem] at h
  simpa [resW] using h
theorem mem_op {x : List UInt8} (h : opT.contains x = true) : x = [38, 38] ∨ x = [124, 124] ∨ x = [59, 59] ∨ x = [60, 60] ∨ x = [60, 60, 45] ∨ x = [62, 62] ∨ x = [60, 38] ∨ x = [62, 38] ∨ x = [60, 62] ∨ x = [62, 124] ∨ x = [60] ∨ x = [62] ∨ x = [38] ∨ x = [59] ∨ x = [124] ∨ x = [40] ∨ x = [41] := by
  rw [List.contains_iff_mem] at h
  simpa [opT] using h

/-- words -/
theorem word_sign (x : List UInt8) (hx : x.length ≤ 60) (a b : Int) : ∃ c : UInt8, fn27 x = some ((c.toNat : Int), ()) ∧ fn11 (6, (x, (a, (b, ())))) = some ([c], ()) := by
  cases hw : resW.contains x with
  | true =>
    rcases mem_res hw with h | h | h | h | h | h | h | h | h | h | h | h | h | h | h | h
    · subst h; exact ⟨33, by kernel_rfl, by kernel_rfl⟩
    · subst h; exact ⟨123, by kernel_rfl, by kernel_rfl⟩
    · subst h; exact ⟨125, by kernel_rfl, by kernel_rfl⟩
    · subst h; exact ⟨99, by kernel_rfl, by kernel_rfl⟩
    · subst h; exact ⟨100, by kernel_rfl, by kernel_rfl⟩
    · subst h; exact ⟨103, by kernel_rfl, by kernel_rfl⟩
    · subst h; exact ⟨101, by kernel_rfl, by kernel_rfl⟩
    · subst h; exact ⟨108, by kernel_rfl, by kernel_rfl⟩
    · subst h; exact ⟨122, by kernel_rfl, by kernel_rfl⟩
    · subst h; exact ⟨102, by kernel_rfl, by kernel_rfl⟩
    · subst h; exact ⟨114, by kernel_rfl, by kernel_rfl⟩
    · subst h; exact ⟨105, by kernel_rfl, by kernel_rfl⟩
    · subst h; exact ⟨107, by kernel_rfl, by kernel_rfl⟩
    · subst h; exact ⟨116, by kernel_rfl, by kernel_rfl⟩
    · subst h; exact ⟨119, by kernel_rfl, by kernel_rfl⟩
    · subst h; exact ⟨119, by kernel_rfl, by kernel_rfl⟩
  | false =>
    refine ⟨120, ?_, ?_⟩
    · have e : ∀ l, resW.contains l = true → eqS x l = false := fun l hl => eqS_f fun he => by rw [he, hl] at hw; cases hw
      unfold fn27
      simp only [e [33] rfl, e [123] rfl, e [125] rfl, e [99, 97, 115, 101] rfl, e [100, 111] rfl, e [100, 111, 110, 101] rfl, e [101, 108, 105, 102] rfl, e [101, 108, 115, 101] rfl, e [101, 115, 97, 99] rfl, e [102, 105] rfl, e [102, 111, 114] rfl, e [105, 102] rfl, e [105, 110] rfl, e [116, 104, 101, 110] rfl, e [117, 110, 116, 105, 108] rfl, e [119, 104, 105, 108, 101] rfl, cond_false]
      rfl
    · unfold fn11
      simp only [show eqI 6 2 = false from rfl, show eqI 6 5 = false from rfl, show eqI 6 4 = false from rfl, show eqI 6 6 = true from rfl, Bool.not_true, cond_false, res_not x hx hw, obind_some, Bool.not_false, cond_true]

/-- operators -/
theorem oper_sign (x : List UInt8) (hx : x.length ≤ 60) (a b : Int) : ∃ c : UInt8, fn26 x = some ((c.toNat : Int), ()) ∧ fn11 (4, (x, (a, (b, ())))) = some ([c], ()) := by
  cases hw : opT.contains x with
  | true =>
    rcases mem_op hw with h | h | h | h | h | h | h | h | h | h | h | h | h | h | h | h | h
    · subst h; exact ⟨97, by kernel_rfl, by kernel_rfl⟩
    · subst h; exact ⟨111, by kernel_rfl, by kernel_rfl⟩
    · subst h; exact ⟨121, by kernel_rfl, by kernel_rfl⟩
    · subst h; exact ⟨60, by kernel_rfl, by kernel_rfl⟩
    · subst h; exact ⟨60, by kernel_rfl, by kernel_rfl⟩
    · subst h; exact ⟨60, by kernel_rfl, by kernel_rfl⟩
    · subst h; exact ⟨60, by kernel_rfl, by kernel_rfl⟩
    · subst h; exact ⟨60, by kernel_rfl, by kernel_rfl⟩
    · subst h; exact ⟨60, by kernel_rfl, by kernel_rfl⟩
    · subst h; exact ⟨60, by kernel_rfl, by kernel_rfl⟩
    · subst h; exact ⟨60, by kernel_rfl, by kernel_rfl⟩
    · subst h; exact ⟨60, by kernel_rfl, by kernel_rfl⟩
    · subst h; exact ⟨38, by kernel_rfl, by kernel_rfl⟩
    · subst h; exact ⟨59, by kernel_rfl, by kernel_rfl⟩
    · subst h; exact ⟨124, by kernel_rfl, by kernel_rfl⟩
    · subst h; exact ⟨40, by kernel_rfl, by kernel_rfl⟩
    · subst h; exact ⟨41, by kernel_rfl, by kernel_rfl⟩
  | false =>
    refine ⟨63, ?_, ?_⟩
    · unfold fn26
      have : fn40 x = some (0, ()) := by
        unfold fn40
        by_cases h0 : x = []
        · rw [bif_t (eqS_t h0)]
        · rw [bif_f (eqS_f h0), show (1 : Int) = ((0 : Nat) : Int) + 1 from rfl, of_loop x hw fuelN 0 (by omega) (big_fuel (by omega))]
          rfl
      rw [this]
      rfl
    · unfold fn11
      simp only [show eqI 4 2 = false from rfl, show eqI 4 5 = false from rfl, show eqI 4 4 = true from rfl, cond_false, cond_true]
      rw [show (1 : Int) = ((0 : Nat) : Int) + 1 from rfl, si_loop x hw 4 a b fuelN 0 (by omega) (big_fuel (by omega))]
      rfl

theorem signs (k : Int) (x : List UInt8) (hx : x.length ≤ 60) (a b : Int) : ∃ c : UInt8, fn10 (k, (x, (a, (b, ())))) = some ((c.toNat : Int), ()) ∧ fn11 (k, (x, (a, (b, ())))) = some ([c], ()) := by
  by_cases h2 : k = 2
  · subst h2; exact ⟨110, rfl, rfl⟩
  by_cases h5 : k = 5
  · subst h5; exact ⟨35, rfl, rfl⟩
  by_cases h4 : k = 4
  · subst h4
    obtain ⟨c, h, h'⟩ := oper_sign x hx a b
    refine ⟨c, ?_, h'⟩
    unfold fn10
    simp only [show eqI 4 2 = false from rfl, show eqI 4 4 = true from rfl, cond_false, cond_true, h, obind_some]
  by_cases h6 : k = 6
  · subst h6
    obtain ⟨c, h, h'⟩ := word_sign x hx a b
    refine ⟨c, ?_, h'⟩
    unfold fn10
    simp only [show eqI 6 2 = false from rfl, show eqI 6 4 = false from rfl, show eqI 6 5 = false from rfl, show eqI 6 6 = true from rfl, cond_false, cond_true, h, obind_some]
  refine ⟨63, ?_, ?_⟩
  · unfold fn10
    simp only [eqI_f h2, eqI_f h4, eqI_f h5, eqI_f h6, cond_false]
    rfl
  · unfold fn11
    simp only [eqI_f h2, eqI_f h4, eqI_f h5, eqI_f h6, cond_false, Bool.not_false, cond_true]

end Go.Proofs.Ytkloefipjbeneaa
