/-
  What oper.Split gives, in the words of 'split'; the law OperSplits.
-/
import Derived.Test.YtkbdgokmcdopgaaOi
namespace Go.Proofs.Ytkbdgokmcdopgaa
open Go.RowKit
set_option linter.unusedVariables false
set_option linter.unusedSimpArgs false

theorem isBla_iff (c : UInt8) : isBla c.toNat = true ↔ c = 32 ∨ c = 9 := by
  have h : ∀ n, n < 256 → (isBla ((UInt8.ofNat n).toNat) = true ↔ UInt8.ofNat n = 32 ∨ UInt8.ofNat n = 9) := by decide +kernel
  have := h c.toNat c.toNat_lt
  rwa [UInt8.ofNat_toNat] at this

theorem bla_zero (c : UInt8) (l : List UInt8) (h : isBla c.toNat = true) : (opAtC (c :: l)).1 = 0 := by
  simp only [opAtC]
  rw [if_neg]
  intro h3
  simp only [isBla, beq_iff_eq] at h
  omega

theorem split_skip : ∀ l : List UInt8, split l = split (l.drop (spanL isBla l))
  | [] => rfl
  | c :: l => by
    cases hc : isBla c.toNat
    · rw [spanL_no hc]; rfl
    · rw [spanL_yes hc, List.drop_succ_cons, split_blank c l (bla_zero c l hc) ((isBla_iff c).1 hc)]
      exact split_skip l

theorem not_bla (l : List UInt8) (c : UInt8) (r : List UInt8) (h : l.drop (spanL isBla l) = c :: r) : isBla c.toNat = false := by
  induction l with
  | nil => simp [spanL] at h
  | cons d l ih =>
    cases hd : isBla d.toNat
    · rw [spanL_no hd] at h; simp at h; rw [← h.1]; exact hd
    · rw [spanL_yes hd, List.drop_succ_cons] at h; exact ih h

theorem items_split (l : List UInt8) : ∀ (k p : Nat), l.length ≤ p + k →
    ((split (l.drop p)).2 = [] ∧ (∀ x ∈ items l (p + spanL isBla (l.drop p)), x.2 ≠ 0) ∧ (items l (p + spanL isBla (l.drop p))).map Prod.snd = (split (l.drop p)).1) ∨
    ((split (l.drop p)).2 ≠ [] ∧ ∃ good, (∀ x ∈ good, x.2 ≠ 0) ∧ items l (p + spanL isBla (l.drop p)) = good ++ [(l.length - (split (l.drop p)).2.length, 0)])
  | 0, p, h => by
    rw [List.drop_of_length_le (by omega), items_end l _ (by omega)]
    exact .inl ⟨by rw [split_eq_nil], by simp, by rw [split_eq_nil]; rfl⟩
  | k + 1, p, h => by
    have hs := split_skip (l.drop p)
    rw [List.drop_drop] at hs
    have hb := not_bla (l.drop p)
    rw [List.drop_drop] at hb
    rw [hs]
    have hpq : p ≤ p + spanL isBla (l.drop p) := by omega
    generalize p + spanL isBla (l.drop p) = q at hb hpq
    rcases Nat.lt_or_ge q l.length with hq | hq
    · have hd : l.drop q = l[q] :: l.drop (q + 1) := List.drop_eq_getElem_cons hq
      by_cases h0 : (opAtC (l.drop q)).1 = 0
      · right
        have hnb := hb _ _ hd
        have e : split (l.drop q) = ([], l.drop q) := by
          rw [hd] at h0 ⊢
          exact split_bad _ _ h0 (fun hh => by rw [(isBla_iff _).2 hh] at hnb; cases hnb)
        rw [e, items_bad l q hq h0]
        refine ⟨by rw [hd]; exact List.cons_ne_nil _ _, [], by simp, ?_⟩
        rw [List.length_drop, show l.length - (l.length - q) = q by omega]; rfl
      · have hpos := (opAtC_pos _ h0).1
        have e : split (l.drop q) = ((opAtC (l.drop q)).1 :: (split (l.drop (q + (opAtC (l.drop q)).2))).1, (split (l.drop (q + (opAtC (l.drop q)).2))).2) := by
          have := split_op l[q] (l.drop (q + 1)) (by rw [← hd]; exact h0)
          rw [← hd, List.drop_drop] at this
          exact this
        rw [e, items_op l q hq h0]
        rcases items_split l k (q + (opAtC (l.drop q)).2) (by omega) with ⟨a, b, c⟩ | ⟨a, good, b, c⟩
        · refine .inl ⟨a, fun x hx => ?_, by rw [List.map_cons, c]⟩
          rcases List.mem_cons.1 hx with hx | hx
          · rw [hx]; exact h0
          · exact b x hx
        · refine .inr ⟨a, (q, (opAtC (l.drop q)).1) :: good, fun x hx => ?_, by rw [c]; rfl⟩
          rcases List.mem_cons.1 hx with hx | hx
          · rw [hx]; exact h0
          · exact b x hx
    · rw [List.drop_of_length_le hq, items_end l q hq]
      exact .inl ⟨by rw [split_eq_nil], by simp, by rw [split_eq_nil]; rfl⟩

theorem split_all (s : ByteArray) (w : World) (hs : s.size ≤ 1000000000) :
    Calls Try.prog 18 #[.string s] w (SplitPost (items s.data.toList (spanL isBla s.data.toList)) w) := (callsIn_wide (n := 9)).1 (split_in s w hs)

theorem split_ok (s : ByteArray) (w : World) (hs : s.size ≤ 1000000000) (h : (split s.data.toList).2 = []) :
    Calls Try.prog 18 #[.string s] w fun e w' => ∃ A c, e = .returned (.tuple #[.slice A (split s.data.toList).1.length c, .int .i64 0, .int .i64 0]) ∧ Below w.heap.size w w' ∧ w'.ownsRow w.heap.size 3 1 (.slice A (split s.data.toList).1.length c) (split s.data.toList).1.length (ints (split s.data.toList).1) := by
  refine (split_all s w hs).mono ?_
  have hi := items_split s.data.toList s.size 0 (by rw [size_list]; omega)
  rw [List.drop_zero, Nat.zero_add] at hi
  rcases hi with ⟨_, h1, h2⟩ | ⟨h1, _⟩
  · rintro e w' ⟨v, a, r, rfl, hb, ⟨_, rfl, rfl, h4⟩ | ⟨pre, p, h3, _⟩⟩
    · rw [h2] at h4
      have hl : (items s.data.toList (spanL isBla s.data.toList)).length = (split s.data.toList).1.length := by rw [← h2, List.length_map]
      rw [hl] at h4
      obtain ⟨A, c, rfl⟩ := own_form h4
      exact ⟨A, c, rfl, hb, h4⟩
    · exact absurd rfl (h1 (p, 0) (h3.subset (by simp)))
  · exact absurd h h1

theorem split_no (s : ByteArray) (w : World) (hs : s.size ≤ 1000000000) (h : (split s.data.toList).2 ≠ []) :
    Calls Try.prog 18 #[.string s] w fun e w' => e = .returned (.tuple #[.slice none 0 0, .int .i64 ((s.size - (split s.data.toList).2.length : Nat) : Int), .int .i64 15]) ∧ Below w.heap.size w w' := by
  refine (split_all s w hs).mono ?_
  have hi := items_split s.data.toList s.size 0 (by rw [size_list]; omega)
  rw [List.drop_zero, Nat.zero_add, size_list] at hi
  rcases hi with ⟨h1, _⟩ | ⟨_, good, h1, h2⟩
  · exact absurd h1 h
  · rintro e w' ⟨v, a, r, rfl, hb, ⟨h3, _⟩ | ⟨pre, p, h3, rfl, rfl, rfl⟩⟩
    · exact absurd rfl (h3 _ (by rw [h2]; exact List.mem_append.2 (.inr (List.mem_singleton.2 rfl))))
    · refine ⟨?_, hb⟩
      have : p = s.size - (split s.data.toList).2.length := by
        rw [h2] at h3
        have h4 : (p, 0) ∈ good ++ [(s.size - (split s.data.toList).2.length, 0)] := h3.subset (by simp)
        rcases List.mem_append.1 h4 with h5 | h5
        · exact absurd rfl (h1 _ h5)
        · simp at h5; exact h5
      rw [this]

set_option maxHeartbeats 2000000 in
theorem operSplits_law (s : ByteArray) (w : World) (hs : s.size ≤ maxLen) :
    Calls Try.prog 6 #[.string s] w fun e w' => e = .returned (.bool true) ∧ Below w.heap.size w w' := by
  unfold maxLen at hs
  by_cases h : s.size ≤ 100
  · have hsl := split_len s.data.toList
    rw [size_list] at hsl
    by_cases hb : (split s.data.toList).2 = []
    · have H1 := fun w => split_ok s w (by omega) hb
      have H2 : ∀ w, Calls Try.prog 17 #[.string s] w fun e w' => ∃ A c, e = .returned (.tuple #[.slice A (split s.data.toList).1.length c, .int .i64 (-1)]) ∧ Below w.heap.size w w' ∧ w'.ownsRow w.heap.size 3 1 (.slice A (split s.data.toList).1.length c) (split s.data.toList).1.length (ints (split s.data.toList).1) := fun w => by
        refine (rsplit_any s w (by omega)).mono ?_
        rintro e w' ⟨v, k, rfl, hbw, ⟨_, rfl, h3⟩ | ⟨h1, _⟩⟩
        · obtain ⟨A, c, rfl⟩ := own_form h3
          exact ⟨A, c, rfl, hbw, h3⟩
        · exact absurd hb h1
      clear hsl hb
      generalize (split s.data.toList).1 = ps at H1 H2
      go_enter Try.func6, Try.ntmps6
      go_wp2_with (first
        | (go_at_call 8; (with_reducible refine (awake5_any _).mono ?_); rintro e w' ⟨rfl, rfl⟩)
        | (go_at_call 18; (with_reducible refine (H1 _).mono ?_); rintro e w1 ⟨A, c, rfl, hb1, hr1⟩)
        | (go_at_call 17; (with_reducible refine (H2 _).mono ?_); rintro e w2 ⟨A2, c2, rfl, hb2, hr2⟩))
      have HC : ∀ k (hk : k < ps.length), ∃ g g2, A = some ⟨g, 0, none⟩ ∧ A2 = some ⟨g2, 0, none⟩ ∧ w2.cell? ⟨g, k, none⟩ = some (.int .i64 (ps[k] : Nat)) ∧ w2.cell? ⟨g2, k, none⟩ = some (.int .i64 (ps[k] : Nat)) := by
        intro k hk
        have hx : (ints ps)[k]? = some (.int .i64 (ps[k] : Nat)) := by simp [ints, hk]
        obtain ⟨g, c1, e1, _, h1⟩ := own_cells2 hr1 (by omega)
        obtain ⟨g2, c3, e2, _, h2⟩ := own_cells2 hr2 (by omega)
        injection e1 with e1
        injection e2 with e2
        have hlt : g < w1.heap.size := by
          have := (hr1.lt g (by rw [e1]; rfl)).2; exact this
        exact ⟨g, g2, e1, e2, (hb2.cell (p := ⟨g, k, none⟩) hlt).trans (h1 k _ hx), h2 k _ hx⟩
      have hB := hb1.trans (hb2.mono hb1.size)
      have HCC := hid HC
      have hl := hid hr1.1
      have hpl : ps.length ≤ 9223372036854775807 := by
        rcases hr1.2 with ⟨_, h0⟩ | ⟨_, cap, _, _, _, _, h1, h2, _⟩
        · omega
        · simp only [maxLen] at h2; omega
      clear HC hr1 hr2 hb1 hb2 H1 H2 hl
      go_loopw [8] (fun i wr => ∃ k d : Nat, i = .int .i64 k ∧ k ≤ ps.length ∧ wr = w2.drewN d) (fun i _ => ps.length - (intOf i).toNat)
      case atStart => exact ⟨0, 0, rfl, by omega, rfl⟩
      case round =>
        obtain ⟨k, d, rfl, hk, rfl⟩ := hrel
        by_cases hlt : k < ps.length
        · obtain ⟨g, g2, rfl, rfl, hc1, hc2⟩ := HCC.out k hlt
          generalize ps[k] = q at hc1 hc2
          have hd1 : ∀ n, (w2.drewN n).cell? ⟨g, k, none⟩ = some (.int .i64 (q : Nat)) := fun _ => hc1
          have hd2 : ∀ n, (w2.drewN n).cell? ⟨g2, k, none⟩ = some (.int .i64 (q : Nat)) := fun _ => hc2
          go_wp2
          go_quiet (fail)
          go_wp2
          go_roundw
          case rel => exact ⟨k + 1, _, by go_num, by omega, rfl⟩
          case measure => simp [intOf]; omega
        · go_wp2
          go_ret
          exact ⟨rfl, below_drewN hB _⟩
    · have H1 := fun w => split_no s w (by omega) hb
      have H2 : ∀ w, Calls Try.prog 17 #[.string s] w fun e w' => e = .returned (.tuple #[.slice none 0 0, .int .i64 ((s.size - (split s.data.toList).2.length : Nat) : Int)]) ∧ Below w.heap.size w w' := fun w => by
        refine (rsplit_any s w (by omega)).mono ?_
        rintro e w' ⟨v, k, rfl, hbw, ⟨h1, _⟩ | ⟨_, rfl, rfl⟩⟩
        · exact absurd h1 hb
        · exact ⟨by rw [size_list, Int.ofNat_sub hsl], hbw⟩
      clear hsl hb
      generalize s.size - (split s.data.toList).2.length = m at H1 H2
      go_enter Try.func6, Try.ntmps6
      go_wp2_with (first
        | (go_at_call 8; (with_reducible refine (awake5_any _).mono ?_); rintro e w' ⟨rfl, rfl⟩)
        | (go_at_call 18; (with_reducible refine (H1 _).mono ?_); rintro e w1 ⟨rfl, hb1⟩)
        | (go_at_call 17; (with_reducible refine (H2 _).mono ?_); rintro e w2 ⟨rfl, hb2⟩))
      go_ret
      exact ⟨rfl, hb1.trans (hb2.mono hb1.size)⟩
  · go_enter Try.func6, Try.ntmps6
    go_wp2_with (go_at_call 8; (with_reducible refine (awake5_any _).mono ?_); rintro e w' ⟨rfl, rfl⟩)
    go_ret
    exact ⟨rfl, blw⟩
end Go.Proofs.Ytkbdgokmcdopgaa
