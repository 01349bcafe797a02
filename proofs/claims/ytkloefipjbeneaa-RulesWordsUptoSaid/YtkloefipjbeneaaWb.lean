/-
  More words of the plain functions as mathematics.
-/
import Derived.Test.YtkloefipjbeneaaRa
namespace Go.Proofs.Ytkloefipjbeneaa
open Go.RowKit
set_option linter.unusedVariables false
set_option linter.unusedSimpArgs false

theorem byteAt_tab (s : List UInt8) (i : Int) : ∃ n : Fin 256, byteAt s i = ((n.val : Nat) : Int) := ⟨⟨(s.getD i.toNat 0).toNat, UInt8.toNat_lt _⟩, rfl⟩

theorem byteAt_sub {s : List UInt8} {a b j : Int} (ha : 0 ≤ a) (hj : 0 ≤ j) (h : a + j < b) : byteAt (sub s a b) j = byteAt s (a + j) := by
  unfold byteAt sub
  congr 2
  simp only [List.getD, List.getElem?_drop, List.getElem?_take]
  rw [if_pos (by omega)]
  congr 2
  omega

theorem sub_len {α : Type} {s : List α} {a b : Int} (ha : 0 ≤ a) (hab : a ≤ b) (h : b ≤ s.length) : (((sub s a b).length : Nat) : Int) = b - a := by
  unfold sub
  simp only [List.length_drop, List.length_take]
  omega

theorem getI_append_left {α : Type} {l m : List α} {d : α} {i : Int} (h0 : 0 ≤ i) (h : i < l.length) : getI (l ++ m) d i = getI l d i := by
  unfold getI
  simp only [List.getD]
  rw [List.getElem?_append_left (by omega)]

theorem getI_append_last {α : Type} {l : List α} {d x : α} {i : Int} (h : i = l.length) : getI (l ++ [x]) d i = x := by
  unfold getI
  subst h
  simp [List.getD]
end Go.Proofs.Ytkloefipjbeneaa
