/-
  How long a row or a text is that came in: as its reading tells.
-/
import Derived.Test.YtnmaceljkegenaaDoorBd
namespace Go.Proofs.YtnmaceljkegenaaDoor
set_option linter.unusedVariables false
open Go.ChangeShapes Go.WideShapes Go.RowKit

theorem len_of_list {P : Program} {w : World} {H : Type} {enc : TypeId × Value → H} {base : Nat} {spare : Nat → Bool} {held : Bool} {c : Cx} {ety : Ty} {x : List ety.den} {t e : TypeId} {v : Value} {d : DataW H} {ps : List MemPlace}
    (ht : P.underlying t = some (.slice e)) (hx : VD c (.list ety) x v) (h : DataW.Trod enc P w base spare held t v d ps) : x.length = 0 ∨ ∃ el sp, d = .slice el sp ∧ el.length = x.length := by
  have h1 := (VD.leaf rfl).1 hx
  simp only [DRel] at h1
  obtain ⟨a, k, zs, e1, e2, e3, e4⟩ := h1
  simp only [List.cons.injEq, and_true] at e1
  obtain ⟨fuel, hf⟩ := h
  subst e1
  have hc : (Value.slice a x.length k).cells.toList = [.slice a x.length k] := rfl
  rw [hc] at hf
  rcases DataW.trod_slice ht hf with ⟨q1, q2⟩ | ⟨a', len, cap, elems, rest, n, q1, q2, q3, q4, q5, q6, q7, q8⟩
  · simp only [List.cons.injEq, and_true, Value.slice.injEq] at q1
    exact .inl q1.2.1
  · simp only [List.cons.injEq, and_true, Value.slice.injEq] at q2
    simp only [Prod.mk.injEq] at q3
    exact .inr ⟨_, _, q3.1, by rw [List.length_map, q7, q2.2.1]⟩
end Go.Proofs.YtnmaceljkegenaaDoor
