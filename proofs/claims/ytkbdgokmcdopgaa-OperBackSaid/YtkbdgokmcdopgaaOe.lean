/-
  The laws OperAt and OperNames, as walks.
-/
import Derived.Test.YtkbdgokmcdopgaaOd
namespace Go.Proofs.Ytkbdgokmcdopgaa
open Go.RowKit
set_option linter.unusedVariables false
set_option linter.unusedSimpArgs false

theorem blw {w : World} : Below w.heap.size w w := Below.refl _ _

theorem blwN {w : World} (k : Nat) : Below w.heap.size w (w.drewN k) := below_drewN (Below.refl _ _) k

theorem awake5_any (w : World) : Calls Try.prog 8 #[] w fun e w' => e = .returned (.bool true) ∧ w = w' := by
  have H1 := operAt_in ⟨#[60, 60, 45, 120]⟩ 0 w (by decide) (by decide)
  rw [show opAt (⟨#[60, 60, 45, 120]⟩ : ByteArray).data.toList ((0 : Nat) : Int) = (5, 3) by rw [opAt_eq, List.drop_zero]; have := opAtC_spec [60, 60, 45, 120]; rw [show rBest [60, 60, 45, 120] 17 = 5 by decide +kernel] at this; exact Prod.ext this.1 this.2, show ((0 : Nat) : Int) = 0 from rfl] at H1
  have H2 := text_any 15 w (by unfold I64; omega)
  rw [show opStr 15 = ⟨#[124]⟩ from rfl] at H2
  go_enter Try.func8, Try.ntmps8
  go_wp2_with (first
    | (go_at_call 9; (with_reducible refine H1.mono ?_); rintro e w' ⟨rfl, rfl⟩)
    | (go_at_call 13; (with_reducible refine H2.mono ?_); rintro e w' ⟨rfl, rfl⟩))
  go_ret
  exact ⟨rfl, rfl⟩

set_option maxHeartbeats 800000 in
theorem operAt_law (s : ByteArray) (a : Int) (w : World) (hs : s.size ≤ maxLen) (ha : I64 a) :
    Calls Try.prog 3 #[.string s, .int .i64 a] w fun e w' => e = .returned (.bool true) ∧ Below w.heap.size w w' := by
  unfold maxLen at hs
  have ha2 := ha
  unfold I64 at ha2
  by_cases h : s.size ≤ 100
  · by_cases ho : a < 0 ∨ (s.size : Int) ≤ a
    · have H := operAt_out s a w (by omega) ha ho
      by_cases h1 : a < 0
      all_goals
        have h2 : (s.size : Int) ≤ a ∨ a < 0 := by omega
        clear ho
        go_enter Try.func3, Try.ntmps3
        go_wp2_with (first
          | (go_at_call 8; (with_reducible refine (awake5_any _).mono ?_); rintro e w' ⟨rfl, rfl⟩)
          | (go_at_call 9; (with_reducible refine H.mono ?_); rintro e w' ⟨rfl, rfl⟩))
        go_ret
        exact ⟨rfl, blw⟩
    · obtain ⟨n, rfl⟩ : ∃ n : Nat, a = n := ⟨a.toNat, by omega⟩
      have hn : n < s.size := by omega
      have H1 := operAt_in s n w (by omega) hn
      have H2 := rat_any s n w (by omega) (by omega)
      have hq := opAtC_spec (s.data.toList.drop n)
      rw [← opAt_eq] at hq
      rw [hq.1, hq.2] at H1
      have hr := rBest_le (s.data.toList.drop n) 17
      clear hq
      generalize rBest (s.data.toList.drop n) 17 = r at H1 H2 hr
      have H3 := rtext_any r w (by unfold I64; omega)
      have e1 : decide ((n : Int) < 0) = false := by simp
      have e2 : decide (s.size ≤ n) = false := by simp; omega
      have e3 : (opText r).length = (opStr r).size := rfl
      rw [e3] at H1
      clear ho e3
      generalize opStr (r : Int) = T at H1 H3
      go_enter Try.func3, Try.ntmps3
      go_wp2_with (first
        | (go_at_call 8; (with_reducible refine (awake5_any _).mono ?_); rintro e w' ⟨rfl, rfl⟩)
        | (go_at_call 9; (with_reducible refine H1.mono ?_); rintro e w' ⟨rfl, rfl⟩)
        | (go_at_call 10; (with_reducible refine H2.mono ?_); rintro e w' ⟨rfl, rfl⟩)
        | (go_at_call 11; (with_reducible refine H3.mono ?_); rintro e w' ⟨rfl, rfl⟩))
      go_ret
      exact ⟨rfl, blw⟩
  · go_enter Try.func3, Try.ntmps3
    go_wp2_with (go_at_call 8; (with_reducible refine (awake5_any _).mono ?_); rintro e w' ⟨rfl, rfl⟩)
    go_ret
    exact ⟨rfl, blw⟩

theorem opIs_str (op : Int) (h : (opStr op).data.toList ≠ []) : (opIs (opStr op).data.toList : Int) = op := by
  by_cases hr : 1 ≤ op ∧ op ≤ 17
  · obtain ⟨n, rfl⟩ : ∃ n : Nat, op = n := ⟨op.toNat, by omega⟩
    have := opIs_of n (by omega) (by omega)
    exact congrArg _ this
  · exact absurd (opText_out hr) h

def opLast (l : List UInt8) : Nat → Nat
  | 0 => 0
  | n + 1 => if opText (n + 1 : Nat) = l then n + 1 else opLast l n

theorem opLast_spec (l : List UInt8) (n : Nat) : (opLast l n ≤ n) ∧ (opLast l n ≠ 0 → opText (opLast l n) = l) ∧ (opLast l n = 0 → ∀ k : Nat, 0 < k → k ≤ n → opText k ≠ l) := by
  induction n with
  | zero => exact ⟨Nat.le_refl _, fun h => absurd rfl h, fun _ k h1 h2 => by omega⟩
  | succ n ih =>
    obtain ⟨a, b, c⟩ := ih
    by_cases h : opText (n + 1 : Nat) = l
    · have e : opLast l (n + 1) = n + 1 := by simp only [opLast]; rw [if_pos h]
      rw [e]; exact ⟨Nat.le_refl _, fun _ => h, fun hh => by omega⟩
    · have e : opLast l (n + 1) = opLast l n := by simp only [opLast]; rw [if_neg h]
      rw [e]
      refine ⟨by omega, b, fun hz k h1 h2 => ?_⟩
      by_cases hk : k = n + 1
      · subst hk; exact h
      · exact c hz k h1 (by omega)

theorem opLast_eq (l : List UInt8) : opLast l 17 = opIs l := by
  obtain ⟨a, b, c⟩ := opLast_spec l 17
  rcases Nat.eq_zero_or_pos (opLast l 17) with h | h
  · rw [h]
    rcases Nat.eq_zero_or_pos (opIs l) with h1 | h1
    · exact h1.symm
    · exact absurd (opIs_text l (by omega)) (c h _ h1 (opIs_le l))
  · have h2 := b (by omega)
    rw [← h2, opIs_of _ h a]
    rw [h2]

set_option maxHeartbeats 1000000 in
theorem operNames_law (op : Int) (s : ByteArray) (w : World) (ha : I64 op) (hs : s.size ≤ maxLen) :
    Calls Try.prog 4 #[.int .i64 op, .string s] w fun e w' => e = .returned (.bool true) ∧ Below w.heap.size w w' := by
  unfold maxLen at hs
  have ha2 := ha
  unfold I64 at ha2
  by_cases h : s.size ≤ 100
  · go_enter Try.func4, Try.ntmps4
    go_wp2_with (go_at_call 8; (with_reducible refine (awake5_any _).mono ?_); rintro e w' ⟨rfl, rfl⟩)
    go_loop [5, 6] (fun b i => ∃ k : Nat, k ≤ 17 ∧ i = .int .i64 ((k : Int) + 1) ∧ b = .int .i64 (opLast s.data.toList k)) (fun _ i => 20 - (intOf i).toNat)
    case atStart => exact ⟨0, by omega, rfl, rfl⟩
    case round =>
      obtain ⟨k, hk, rfl, rfl⟩ := hrel
      by_cases hlt : k < 17
      · have HX : Hid (opLast s.data.toList (k + 1) = if opText (k + 1 : Nat) = s.data.toList then k + 1 else opLast s.data.toList k) := rfl
        have H1 := rtext_any ((k : Int) + 1) w (by unfold I64; omega)
        have HT : Hid (opText (k + 1 : Nat) = (opStr ((k : Int) + 1)).data.toList) := rfl
        generalize opLast s.data.toList k = b at HX
        generalize opStr ((k : Int) + 1) = T at H1 HT
        cases c : (T.toList == s.toList)
        · have HR : Hid (opLast s.data.toList (k + 1) = b) := by
            show _ = _
            rw [HX.out, if_neg]
            intro he
            rw [HT.out, ← ByteArray.toList_eq, ← ByteArray.toList_eq] at he
            rw [he] at c; simp at c
          go_wp2_with (go_at_call 11; (with_reducible refine H1.mono ?_); rintro e w' ⟨rfl, rfl⟩)
          go_round
          case rel => exact ⟨k + 1, by omega, by go_num, by rw [HR.out]⟩
          case measure => simp [intOf]; omega
        · have HR : Hid (opLast s.data.toList (k + 1) = k + 1) := by
            show _ = _
            rw [HX.out, if_pos]
            rw [HT.out, ← ByteArray.toList_eq, ← ByteArray.toList_eq]; simpa using c
          go_wp2_with (go_at_call 11; (with_reducible refine H1.mono ?_); rintro e w' ⟨rfl, rfl⟩)
          go_round
          case rel => exact ⟨k + 1, by omega, by go_num, by rw [HR.out]; rfl⟩
          case measure => simp [intOf]; omega
      · obtain rfl : k = 17 := by omega
        rw [opLast_eq]
        have hq := opIs_le s.data.toList
        have H1 := rtext_any op w ha
        have H2 := text_any op w ha
        have H3 := operOf_any s w
        have H4 := operOf_any (opStr op) w
        have H5 := redirects_any op w ha
        have H6 := operEnds_any op w ha
        have hS := opIs_str op
        generalize opIs s.data.toList = q at H3 hq
        by_cases hne : (opStr op).data.toList = []
        · have e1 : ((opStr op).toList == []) = true := by rw [ByteArray.toList_eq, hne]; rfl
          have e2 : (opStr op).toList.isEmpty = true := by rw [ByteArray.toList_eq, hne]; rfl
          clear hS H4 hne
          generalize opStr op = T at H1 H2 e1 e2
          go_wp2_with (first
            | (go_at_call 11; (with_reducible refine H1.mono ?_); rintro e w' ⟨rfl, rfl⟩)
            | (go_at_call 13; (with_reducible refine H2.mono ?_); rintro e w' ⟨rfl, rfl⟩)
            | (go_at_call 12; (with_reducible refine H3.mono ?_); rintro e w' ⟨rfl, rfl⟩)
            | (go_at_call 14; (with_reducible refine H5.mono ?_); rintro e w' ⟨rfl, rfl⟩)
            | (go_at_call 15; (with_reducible refine H6.mono ?_); rintro e w' ⟨rfl, rfl⟩))
          all_goals
            go_ret
            exact ⟨ret_bool (by first | rfl | (show ((op == 14 || op == 13) == (op == 13 || op == 14)) = true; rw [Bool.or_comm]; exact beq_self_eq_true _)), blw⟩
        · have e1 : ((opStr op).toList == []) = false := by rw [ByteArray.toList_eq]; cases hh : (opStr op).data.toList <;> simp_all
          have e2 : (opStr op).toList.isEmpty = false := by rw [ByteArray.toList_eq]; cases hh : (opStr op).data.toList <;> simp_all
          rw [hS hne] at H4
          clear hS hne
          generalize opStr op = T at H1 H2 H4 e1 e2
          go_wp2_with (first
            | (go_at_call 11; (with_reducible refine H1.mono ?_); rintro e w' ⟨rfl, rfl⟩)
            | (go_at_call 13; (with_reducible refine H2.mono ?_); rintro e w' ⟨rfl, rfl⟩)
            | (go_at_call 12; (with_reducible refine H4.mono ?_); clear H4; rintro e w' ⟨rfl, rfl⟩)
            | (go_at_call 12; (with_reducible refine H3.mono ?_); rintro e w' ⟨rfl, rfl⟩)
            | (go_at_call 14; (with_reducible refine H5.mono ?_); rintro e w' ⟨rfl, rfl⟩)
            | (go_at_call 15; (with_reducible refine H6.mono ?_); rintro e w' ⟨rfl, rfl⟩))
          all_goals
            go_ret
            exact ⟨ret_bool (by first | rfl | (show ((op == 14 || op == 13) == (op == 13 || op == 14)) = true; rw [Bool.or_comm]; exact beq_self_eq_true _)), blw⟩
  · go_enter Try.func4, Try.ntmps4
    go_wp2_with (go_at_call 8; (with_reducible refine (awake5_any _).mono ?_); rintro e w' ⟨rfl, rfl⟩)
    go_ret
    exact ⟨rfl, blw⟩
end Go.Proofs.Ytkbdgokmcdopgaa
