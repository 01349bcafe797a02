/-
  A right tree's text: the program's loops.
-/
import Derived.Test.YtnmaceljkegenaaDoorTc
namespace Go.Proofs.YtnmaceljkegenaaDoor
open Go.RowKit
set_option linter.unusedVariables false
set_option linter.unusedSimpArgs false
set_option maxRecDepth 100000

/-- a right tree of few nodes, of numbers that a computer has -/
structure Rf (l : List Nd) : Prop where
  pos : 0 < l.length
  len : l.length ≤ 40
  up : (nd l 0).up = -1
  fr : (nd l 0).fro = 0
  ok : okTo l l.length
  wf : ∀ i : Int, 0 ≤ i → i < l.length → (nd l i).too < 9223372036854775808

theorem Rf.ups {l : List Nd} (h : Rf l) : upsOk l l.length := h.ok.ups h.up

theorem Rf.node {l : List Nd} (h : Rf l) {i : Int} (h0 : 0 ≤ i) (hi : i < l.length) : 1 ≤ (nd l i).kind ∧ (nd l i).kind ≤ 18 ∧ 0 ≤ (nd l i).fro ∧ (nd l i).fro ≤ (nd l i).too ∧ (nd l i).too < 9223372036854775808 := by
  obtain ⟨k1, k2, k3, _⟩ := h.ok i h0 hi
  have := h.ok.fro h.fr (i.toNat + 1) i (by omega) h0 hi
  exact ⟨k1, k2, this, k3, h.wf i h0 hi⟩

def lin (l : List Nd) : Nat → List UInt8
  | 0 => []
  | k + 1 => nodeT (nd l 0) ++ midT l 1 k

theorem nodeT_len (n : Nd) : (nodeT n).length ≤ 42 := by
  have h1 := numT_len n.fro
  have h2 := numT_len n.too
  unfold nodeT
  simp only [List.length_append, List.length_singleton]; omega

theorem sepT_len {l : List Nd} (h : Rf l) {k : Nat} (hk : k < l.length) : (sepT l k).length ≤ 42 := by
  unfold sepT
  split
  · simp
  · rw [List.length_append, List.length_replicate, List.length_singleton]
    have := h.len
    by_cases e : k = 0
    · subst e
      unfold dep
      rw [anc_neg (by omega)]; simp
    · have := dep_le h.ups (k + 1) ((k : Int) - 1) (by omega) (by omega) (by omega)
      omega

theorem lin_succ {l : List Nd} {k : Nat} : lin l (k + 2) = lin l (k + 1) ++ (sepT l (k + 1) ++ nodeT (nd l ((k + 1 : Nat) : Int))) := by
  show nodeT (nd l 0) ++ (midT l 1 k ++ (sepT l (1 + k) ++ nodeT (nd l ((1 + k : Nat) : Int)))) = (nodeT (nd l 0) ++ midT l 1 k) ++ _
  rw [List.append_assoc, show 1 + k = k + 1 from Nat.add_comm 1 k]

theorem lin_len {l : List Nd} (h : Rf l) : ∀ k, k ≤ l.length → (lin l k).length ≤ 100 * k
  | 0, _ => by simp [lin]
  | 1, _ => by
    have := nodeT_len (nd l 0)
    simp only [lin, midT, List.append_nil]; omega
  | k + 2, hk => by
    have h1 := lin_len h (k + 1) (by omega)
    have h2 := sepT_len h (show k + 1 < l.length by omega)
    have h3 := nodeT_len (nd l ((k + 1 : Nat) : Int))
    rw [lin_succ]
    simp only [List.length_append]; omega

theorem tailP {l : List Nd} (N : Nat) (len i kk ff tt_ : Int) (p : List Int) (o : List UInt8) (k1 : 1 ≤ kk) (k2 : kk ≤ 18) (f0 : 0 ≤ ff) (f1 : ff < 9223372036854775808) (t0 : 0 ≤ tt_) (t1 : tt_ < 9223372036854775808) (ho : o.length ≤ 100000) (hp : p.length ≤ 100000) :
    (bif (inI [63, 80, 76, 65, 73, 83, 88, 87, 82, 66, 85, 70, 72, 79, 67, 84, 78, 69, 77] kk) then bif (fitI (catL (toBytes o) [(byteAt [63, 80, 76, 65, 73, 83, 88, 87, 82, 66, 85, 70, 72, 79, 67, 84, 78, 69, 77] kk)]) 1) then obind (itoaF ff) fun y2 => bif (fitI (catL (catL (toBytes o) [(byteAt [63, 80, 76, 65, 73, 83, 88, 87, 82, 66, 85, 70, 72, 79, 67, 84, 78, 69, 77] kk)]) (toBytes y2.1)) 1) then bif (fitI (catL (catL (catL (toBytes o) [(byteAt [63, 80, 76, 65, 73, 83, 88, 87, 82, 66, 85, 70, 72, 79, 67, 84, 78, 69, 77] kk)]) (toBytes y2.1)) [45]) 1) then obind (itoaF tt_) fun y3 => bif (fitI (catL (catL (catL (catL (toBytes o) [(byteAt [63, 80, 76, 65, 73, 83, 88, 87, 82, 66, 85, 70, 72, 79, 67, 84, 78, 69, 77] kk)]) (toBytes y2.1)) [45]) (toBytes y3.1)) 1) then bif (fitI (catL p [i]) 8) then lp5_6 N l len (addK .i64 i 1) (catL p [i]) (catL (catL (catL (catL (toBytes o) [(byteAt [63, 80, 76, 65, 73, 83, 88, 87, 82, 66, 85, 70, 72, 79, 67, 84, 78, 69, 77] kk)]) (toBytes y2.1)) [45]) (toBytes y3.1)) else none else none else none else none else none else none) =
      lp5_6 N l len (addK .i64 i 1) (p ++ [i]) (toBytes (o ++ ([ltrs.getD kk.toNat 0] ++ numT ff ++ [45] ++ numT tt_))) := by
  have hb : ([byteAt [63, 80, 76, 65, 73, 83, 88, 87, 82, 66, 85, 70, 72, 79, 67, 84, 78, 69, 77] kk] : List Int) = toBytes [ltrs.getD kk.toNat 0] := rfl
  have hin : ∀ {α : Type} (L : List α), L.length = 19 → inI L kk = true := fun L hL => inI_t (by omega) (by omega)
  have l1 := numT_len ff
  have l2 := numT_len tt_
  rw [hin _ rfl, cond_true, hb, toB_app, bif_t (fit_b (by rw [List.length_append, List.length_singleton]; omega)), itoa_p f0 f1, obind_some]
  simp only [toB_app]
  rw [bif_t (fit_b (by simp only [List.length_append, List.length_singleton]; omega)), show ([45] : List Int) = toBytes [45] from rfl, toB_app, bif_t (fit_b (by simp only [List.length_append, List.length_singleton]; omega)), itoa_p t0 t1, obind_some]
  simp only [toB_app]
  rw [bif_t (fit_b (by simp only [List.length_append, List.length_singleton]; omega)), bif_t (fit_l (by unfold catL; rw [List.length_append, List.length_singleton]; omega))]
  simp only [List.append_assoc]
  rfl

theorem pop_nil (N : Nat) (l : List Nd) (w0 w2 w3 w4 w5 w6 u : Int) (out : List Int) : lp5_10 (N + 1) w0 l w2 w3 w4 w5 w6 u [] out = some (.inl ((w0, l, w2, w3, ()), ((w4, w5, w6, u, ()), [], (), out, ()))) := by
  rw [lp5_10, st5_10]; rfl

theorem show_loop {l : List Nd} (h : Rf l) : ∀ (N k : Nat), l.length - k < N → k ≤ l.length →
    lp5_6 N l (lenI l) (k : Int) (anc l ((k : Int) - 1)).reverse (toBytes (lin l k)) = some (.inl ((), ((anc l ((l.length : Int) - 1)).reverse, (), toBytes (lin l l.length), ())))
  | 0, k, hN, _ => by omega
  | N + 1, k, hN, hk => by
    rw [lp5_6, st5_6]
    by_cases e : k < l.length
    · have hin : inI l (k : Int) = true := inI_t (by omega) (by omega)
      obtain ⟨k1, k2, f0, ft, t1⟩ := h.node (i := (k : Int)) (by omega) (by omega)
      have hll := lin_len h k hk
      have hlen := h.len
      have hadd : addK .i64 (k : Int) 1 = ((k + 1 : Nat) : Int) := by rw [addK_eq (by omega) (by omega)]; omega
      have hdl : (anc l ((k : Int) - 1)).length ≤ 100 := by
        have := dep_le h.ups (k + 1) ((k : Int) - 1) (by omega) (by omega) (by omega)
        unfold dep at this; omega
      have hnode : getI l (0, (0, (0, (0, ())))) (k : Int) = nd l (k : Int) := rfl
      rw [bif_t (ltI_t (by rw [lenI_eq]; omega)), hin, cond_true]
      cases k with
      | zero =>
        rw [show ltI 0 ((0 : Nat) : Int) = false from rfl, cond_false, anc_neg (by omega), List.reverse_nil]
        rw [show fuelN = (fuelN - 1) + 1 from rfl, pop_nil, obind_some]
        simp only [osum, hnode]
        refine (tailP N (lenI l) _ _ _ _ [] [] k1 k2 f0 (by omega) (by omega) t1 (by simp) (by simp)).trans ?_
        rw [hadd]
        have hA := anc_cons h.ups (show (0 : Int) ≤ 0 by omega) (show (0 : Int) < l.length by omega)
        rw [h.up, anc_neg (show (-1 : Int) < 0 by omega)] at hA
        have ih := show_loop h N 1 (by omega) (by omega)
        rw [show (((0 + 1 : Nat) : Int)) - 1 = 0 by omega, hA] at ih
        simp only [lin, midT, List.append_nil] at ih
        exact ih
      | succ k =>
        have hu := h.ok ((k + 1 : Nat) : Int) (by omega) (by omega)
        obtain ⟨u0, u1, u2, _⟩ := hu.2.2.2 (by omega)
        have hA := anc_cons h.ups (show (0 : Int) ≤ ((k + 1 : Nat) : Int) by omega) (show ((k + 1 : Nat) : Int) < l.length by omega)
        have ih := show_loop h N (k + 2) (by omega) (by omega)
        rw [show (((k + 2 : Nat) : Int)) - 1 = ((k + 1 : Nat) : Int) by omega, hA, List.reverse_cons, lin_succ] at ih
        have hsep := sepT_len h e
        have hs1 : subK .i64 ((k + 1 : Nat) : Int) 1 = ((k + 1 : Nat) : Int) - 1 := subK_eq (by omega) (by omega)
        have hdu : (anc l (nd l ((k + 1 : Nat) : Int)).up).length ≤ 100 := by
          have := dep_le h.ups (k + 1) (nd l ((k + 1 : Nat) : Int)).up (by omega) (by omega) (by omega)
          unfold dep at this; omega
        rw [bif_t (ltI_t (by omega))]
        simp only [hnode, hs1]
        have fin : lp5_6 N l (lenI l) (addK .i64 ((k + 1 : Nat) : Int) 1) ((anc l (nd l ((k + 1 : Nat) : Int)).up).reverse ++ [((k + 1 : Nat) : Int)]) (toBytes (lin l (k + 1) ++ sepT l (k + 1) ++ nodeT (nd l ((k + 1 : Nat) : Int)))) = some (.inl ((), ((anc l ((l.length : Int) - 1)).reverse, (), toBytes (lin l l.length), ()))) := by
          rw [hadd, List.append_assoc]
          exact ih
        by_cases hc : (nd l ((k + 1 : Nat) : Int)).up = ((k + 1 : Nat) : Int) - 1
        · have hse : sepT l (k + 1) = [40] := by unfold sepT; rw [if_pos hc]
          rw [hse] at fin
          rw [bif_t (eqI_t hc), show ([40] : List Int) = toBytes [40] from rfl, toB_app, bif_t (fit_b (by rw [List.length_append, List.length_singleton]; omega))]
          rw [pop_loop h.ups (by omega) _ _ _ _ _ _ _ (k + 1) fuelN (((k + 1 : Nat) : Int) - 1) _ (by omega) (big_fuel (by omega)) (by omega) u2 (by rw [List.length_append, List.length_singleton]; omega), obind_some, if_pos hc.symm, List.append_nil]
          simp only [osum]
          exact (tailP N (lenI l) _ _ _ _ _ _ k1 k2 f0 (by omega) (by omega) t1 (by rw [List.length_append, List.length_singleton]; omega) (by rw [List.length_reverse]; omega)).trans fin
        · have hse : sepT l (k + 1) = List.replicate (dep l (((k + 1 : Nat) : Int) - 1) - dep l (nd l ((k + 1 : Nat) : Int)).up - 1) 41 ++ [32] := by unfold sepT; rw [if_neg hc]
          rw [bif_f (eqI_f hc), pop_loop h.ups (by omega) _ _ _ _ _ _ _ (k + 1) fuelN (((k + 1 : Nat) : Int) - 1) _ (by omega) (big_fuel (by omega)) (by omega) u2 (by omega), obind_some, if_neg (fun h => hc h.symm), ← hse]
          simp only [osum]
          exact (tailP N (lenI l) _ _ _ _ _ _ k1 k2 f0 (by omega) (by omega) t1 (by rw [List.length_append]; omega) (by rw [List.length_reverse]; omega)).trans fin
    · obtain rfl : k = l.length := by omega
      rw [bif_f (ltI_n (by rw [lenI_eq]; omega))]

theorem close_loop : ∀ (N : Nat) (k n : Int) (o : List UInt8), n - k < N → 0 < N → 0 ≤ k → n ≤ 1000 → o.length ≤ 100000 + k →
    lp5_19 N n k (toBytes o) = some (.inl ((), ((), toBytes (o ++ List.replicate (n - k).toNat 41), ())))
  | 0, k, n, o, h, hN, h0, hn, ho => by omega
  | N + 1, k, n, o, h, hN, h0, hn, ho => by
    rw [lp5_19, st5_19]
    by_cases e : k < n
    · rw [bif_t (ltI_t e), show ([41] : List Int) = toBytes [41] from rfl, toB_app, bif_t (fit_b (by rw [List.length_append, List.length_singleton]; omega)), addK_eq (by omega) (by omega), close_loop N (k + 1) n _ (by omega) (by omega) (by omega) hn (by rw [List.length_append, List.length_singleton]; omega),
        show (n - k).toNat = (n - (k + 1)).toNat + 1 by omega]
      simp only [List.append_assoc, List.replicate_succ, List.cons_append, List.nil_append]
    · rw [bif_f (ltI_n e), show (n - k).toNat = 0 by omega, List.replicate_zero, List.append_nil]

theorem lin_all {l : List Nd} (h : Rf l) : lin l l.length ++ List.replicate (dep l ((l.length : Int) - 1) - 1) 41 = treeT l := by
  obtain ⟨n, hn⟩ : ∃ n, l.length = n + 1 := ⟨l.length - 1, by have := h.pos; omega⟩
  unfold treeT
  rw [hn]
  simp only [lin, Nat.add_sub_cancel]

theorem Show_p {l : List Nd} (h : Rf l) : fn5 l = some (treeT l, ()) := by
  have hpos := h.pos
  have hlen := h.len
  have hck : fn10 l (nd l 0).too = some (true, ()) := by
    rcases fn11_eq (l := l) (by omega) (nd l 0).too with ⟨_, h2⟩ | ⟨h1, _⟩
    · exact h2
    · exact absurd ⟨List.length_pos_iff.1 hpos, h.up, h.fr, rfl, h.ok⟩ h1
  have hs := show_loop h fuelN 0 (big_fuel (by omega)) (by omega)
  rw [anc_neg (by omega)] at hs
  have hd := dep_le h.ups (l.length + 1) ((l.length : Int) - 1) (by omega) (by omega) (by omega)
  have hdc := dep_cons h.ups (show (0 : Int) ≤ (l.length : Int) - 1 by omega) (show (l.length : Int) - 1 < l.length by omega)
  have hll := lin_len h l.length (by omega)
  rw [fn5, bif_f (eqI_f (by rw [lenI_eq]; omega)), bif_t (inI_t (by omega) (by omega)), show (getI l (0, (0, (0, (0, ())))) 0).2.2.1 = (nd l 0).too from rfl, hck, obind_some]
  simp only
  rw [Bool.not_true, cond_false, show lp5_6 fuelN l (lenI l) 0 [] [] = _ from hs, obind_some]
  simp only [osum]
  have hL : subK .i64 (lenI (anc l ((l.length : Int) - 1)).reverse) 1 = ((dep l ((l.length : Int) - 1) : Nat) : Int) - 1 := by
    rw [lenI_eq, List.length_reverse, subK_eq (by unfold dep at hd; omega) (by unfold dep at hd; omega)]; rfl
  rw [hL, close_loop fuelN 0 _ _ (by unfold fuelN; omega) (by unfold fuelN; omega) (by omega) (by omega) (by omega), obind_some]
  simp only [osum, ofB_to]
  rw [eqI_t rfl, cond_true, show ((((dep l ((l.length : Int) - 1) : Nat) : Int) - 1) - 0).toNat = dep l ((l.length : Int) - 1) - 1 by omega, lin_all h]
end Go.Proofs.YtnmaceljkegenaaDoor
