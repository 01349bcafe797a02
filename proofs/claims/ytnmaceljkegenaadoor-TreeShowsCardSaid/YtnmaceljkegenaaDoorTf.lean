/-
  A right tree's text: the document's answer, whole.
-/
import Derived.Test.YtnmaceljkegenaaDoorTe
namespace Go.Proofs.YtnmaceljkegenaaDoor
open Go.RowKit
set_option linter.unusedVariables false
set_option linter.unusedSimpArgs false
set_option maxRecDepth 100000

theorem Show_rec {l : List Nd} (h : Rf l) : ∀ (r i : Nat), l.length - i < r → i < l.length → ∃ e : Nat, endOk l i e ∧ (fr7 r).q7 l (i : Int) = some (subT l i e, ())
  | 0, i, hr, hi => by omega
  | r + 1, i, hr, hi => by
    obtain ⟨e, he⟩ := end_is h.ups hi
    refine ⟨e, he, ?_⟩
    show fb7 (fr7 r) l (i : Int) = _
    obtain ⟨e1, e2, e3, e4⟩ := id he
    obtain ⟨k1, k2, f0, ft, t1⟩ := h.node (i := (i : Int)) (by omega) (by omega)
    have hin : inI l (i : Int) = true := inI_t (by omega) (by omega)
    have hnode : getI l (0, (0, (0, (0, ())))) (i : Int) = nd l (i : Int) := rfl
    have hlen := h.len
    have l1 := numT_len (nd l (i : Int)).fro
    have l2 := numT_len (nd l (i : Int)).too
    have hak : addK .i64 (nd l (i : Int)).kind 1 = (nd l (i : Int)).kind + 1 := addK_eq (by omega) (by omega)
    have hai : addK .i64 (i : Int) 1 = ((i + 1 : Nat) : Int) := by rw [addK_eq (by omega) (by omega)]; omega
    have hsub : sub [63, 80, 76, 65, 73, 83, 88, 87, 82, 66, 85, 70, 72, 79, 67, 84, 78, 69, 77] (nd l (i : Int)).kind ((nd l (i : Int)).kind + 1) = [ltrs.getD (nd l (i : Int)).kind.toNat 0] := by
      have := ltr_sub ⟨(nd l (i : Int)).kind.toNat, by omega⟩
      rwa [show (((nd l (i : Int)).kind.toNat : Nat) : Int) = (nd l (i : Int)).kind by omega] at this
    have hpt : ∀ {α : Type} (L : List α), L.length = 19 → partI (lenI L) (nd l (i : Int)).kind ((nd l (i : Int)).kind + 1) = true := fun L hL => partI_t (by omega) (by omega) (by rw [lenI_eq]; omega)
    rw [fb7]
    simp only [hin, hnode, cond_true]
    rw [hak, hpt _ rfl, cond_true, digits_r f0 (by omega), obind_some]
    simp only [hsub]
    rw [bif_t (room_l (by rw [List.length_singleton]; omega))]
    unfold catL
    rw [bif_t (room_l (by simp only [List.length_append, List.length_singleton]; omega)), digits_r (by omega) t1, obind_some]
    simp only
    rw [bif_t (room_l (by simp only [List.length_append, List.length_singleton]; omega)), hai]
    have hpre : [ltrs.getD (nd l (i : Int)).kind.toNat 0] ++ numT (nd l (i : Int)).fro ++ [45] ++ numT (nd l (i : Int)).too = preT l i (i + 1) := by
      unfold preT nodeT
      rw [show i + 1 - i - 1 = 0 by omega, show (((i + 1 : Nat) : Int)) - 1 = (i : Int) by omega, show dep l (i : Int) - dep l (i : Int) - 1 = 0 by omega]
      simp [midT]
    obtain ⟨n', q1, q2⟩ := kids_loop h hi he (fun c a b => Show_rec h r c (by omega) b) fuelN (i + 1) (i + 1) 0 (big_fuel (by omega)) (by omega) (by omega) (by omega) (by omega) (by omega) (fun j a b => by omega) (fun w a b => by omega) (by simp) (by omega)
    rw [hpre, show lp7_4 (fr7 r) fuelN l (i : Int) (preT l i (i + 1)) 0 ((i + 1 : Nat) : Int) = _ from q1, obind_some]
    simp only [osum]
    have hpl := preT_len h (i := i) (c := e) (by omega) (by omega)
    by_cases c : e = i + 1
    · rw [bif_f (ltI_f (by have := q2.2 c; omega))]
      subst c
      unfold preT subT
      rw [show (((i + 1 : Nat) : Int)) - 1 = (i : Int) by omega, show dep l (i : Int) - dep l (i : Int) - 1 = 0 by omega, show dep l (i : Int) - dep l (i : Int) = 0 by omega]
    · rw [bif_t (ltI_t (by have : n' ≠ 0 := fun hh => c (q2.1 hh); omega)), bif_t (room_l (by rw [List.length_singleton]; omega))]
      have hm : (i : Int) ∈ anc l ((e : Int) - 1) := (end_anc h.ok h.up (by omega) (by omega) he (k := (e : Int) - 1) (by omega) (by omega)).2 ⟨by omega, by omega⟩
      have hd := dep_lt h.ups (show (e : Int) - 1 < l.length by omega) hm (by omega)
      unfold preT subT
      rw [List.append_assoc, show ([41] : List UInt8) = List.replicate 1 41 from rfl, List.replicate_append_replicate, show dep l ((e : Int) - 1) - dep l (i : Int) - 1 + 1 = dep l ((e : Int) - 1) - dep l (i : Int) by omega]

theorem Show_r {l : List Nd} (h : Rf l) : fn7 l 0 = some (treeT l, ()) := by
  have hpos := h.pos
  obtain ⟨e, he, hq⟩ := Show_rec h fuelN 0 (big_fuel (by have := h.len; omega)) hpos
  have hee : e = l.length := by
    obtain ⟨e1, e2, e3, e4⟩ := he
    rcases Nat.lt_or_ge e l.length with c | c
    · have h1 := e4 (by omega)
      have h2 := h.ok (e : Int) (by omega) (by omega)
      have := (h2.2.2.2 (by omega)).1
      omega
    · omega
  subst hee
  have hd0 : dep l 0 = 1 := by
    rw [dep_cons h.ups (by omega) (show (0 : Int) < l.length by omega), h.up]
    unfold dep
    rw [anc_neg (by omega)]; rfl
  rw [fn7]
  refine hq.trans ?_
  unfold subT treeT
  rw [show ((0 : Nat) : Int) = 0 from rfl, hd0]
  rfl
end Go.Proofs.YtnmaceljkegenaaDoor
