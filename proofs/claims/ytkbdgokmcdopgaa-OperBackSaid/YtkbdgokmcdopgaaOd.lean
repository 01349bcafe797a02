/-
  The reference's At, and the plain law that the program's At is the reference's.
-/
import Derived.Test.YtkbdgokmcdopgaaOc
namespace Go.Proofs.Ytkbdgokmcdopgaa
open Go.RowKit
set_option linter.unusedVariables false
set_option linter.unusedSimpArgs false

/-- an operator's text stands at the beginning -/
def preOp (l : List UInt8) (k : Nat) : Bool := decide ((opText k).length ≤ l.length) && l.take (opText k).length == opText k

def rBest (l : List UInt8) : Nat → Nat
  | 0 => 0
  | n + 1 => if preOp l (n + 1) && decide ((opText (rBest l n)).length < (opText (n + 1 : Nat)).length) then n + 1 else rBest l n

theorem rBest_le (l : List UInt8) (n : Nat) : rBest l n ≤ n := by
  induction n with
  | zero => simp [rBest]
  | succ n ih => simp only [rBest]; split <;> omega

theorem rBest_pre (l : List UInt8) (n : Nat) (h : rBest l n ≠ 0) : preOp l (rBest l n) = true := by
  induction n with
  | zero => simp [rBest] at h
  | succ n ih =>
    simp only [rBest] at h ⊢
    split
    · rename_i h1; simp only [Bool.and_eq_true] at h1; exact h1.1
    · rename_i h1; rw [if_neg h1] at h; exact ih h

theorem rBest_max (l : List UInt8) (n : Nat) : ∀ k, 0 < k → k ≤ n → preOp l k = true → (opText k).length ≤ (opText (rBest l n)).length := by
  induction n with
  | zero => intro k h1 h2; omega
  | succ n ih =>
    intro k h1 h2 h3
    simp only [rBest]
    by_cases hk : k = n + 1
    · subst hk
      rw [h3]
      by_cases hl : (opText (rBest l n)).length < (opText (n + 1 : Nat)).length
      · rw [if_pos (by simpa using hl)]; exact Nat.le_refl _
      · rw [if_neg (by simpa using hl)]; omega
    · have := ih k h1 (by omega) h3
      split
      · rename_i h4
        simp only [Bool.and_eq_true, decide_eq_true_eq] at h4
        have h5 := h4.2
        exact Nat.le_trans this (Nat.le_of_lt h5)
      · exact this

theorem opText_len : ∀ k, k < 18 → (opText (k : Nat)).length ≤ 3 ∧ (k ≠ 0 → 0 < (opText (k : Nat)).length) := by decide +kernel

theorem opText_head : ∀ k, k < 18 → ((opText (k : Nat)).take 1).all (fun c => clsOf c.toNat == 3) = true := by decide +kernel

theorem opText_inj : ∀ k, k < 18 → ∀ j, j < 18 → opText (k : Nat) = opText (j : Nat) → k = j := by decide +kernel

theorem opIs_text (l : List UInt8) (h : opIs l ≠ 0) : opText (opIs l : Nat) = l := by
  rw [opIs_eq] at h ⊢; exact opOfN_text l 17 h

theorem opIs_le (l : List UInt8) : opIs l ≤ 17 := by rw [opIs_eq]; exact opOfN_le l 17

theorem opIs_of (k : Nat) (h0 : 0 < k) (h : k ≤ 17) : opIs (opText k) = k := by
  rcases Nat.eq_zero_or_pos (opIs (opText k)) with h1 | h1
  · rw [opIs_eq] at h1; exact absurd rfl (opOfN_zero _ 17 h1 k h0 h)
  · have := opIs_text (opText k) (by omega)
    exact opText_inj _ (by have := opIs_le (opText k); omega) _ (by omega) this

theorem opAtN_spec (l : List UInt8) (m : Nat) : (opAtN l m).2 ≤ m ∧ (opAtN l m).1 = (if (opAtN l m).2 = 0 then 0 else opIs (l.take (opAtN l m).2)) ∧ ((opAtN l m).2 ≠ 0 → (opAtN l m).1 ≠ 0) ∧ ∀ k, (opAtN l m).2 < k → k ≤ m → opIs (l.take k) = 0 := by
  induction m with
  | zero => exact ⟨Nat.le_refl _, rfl, fun h => absurd rfl h, fun k h1 h2 => by simp [opAtN] at h1; omega⟩
  | succ m ih =>
    by_cases h : opIs (l.take (m + 1)) = 0
    · have e : opAtN l (m + 1) = opAtN l m := by simp only [opAtN]; rw [if_neg (by simpa using h)]
      rw [e]
      obtain ⟨a, b, c, d⟩ := ih
      refine ⟨by omega, b, c, fun k h1 h2 => ?_⟩
      by_cases hk : k = m + 1
      · subst hk; exact h
      · exact d k h1 (by omega)
    · have e : opAtN l (m + 1) = (opIs (l.take (m + 1)), m + 1) := by simp only [opAtN]; rw [if_pos h]
      rw [e]
      exact ⟨Nat.le_refl _, by simp, fun _ => h, fun k h1 h2 => by simp at h1; omega⟩

theorem preOp_iff (l : List UInt8) (k : Nat) : preOp l k = true ↔ (opText k).length ≤ l.length ∧ l.take (opText k).length = opText k := by simp [preOp]

theorem opAtC_spec (l : List UInt8) : (opAtC l).1 = rBest l 17 ∧ (opAtC l).2 = (opText (rBest l 17)).length := by
  have hle := rBest_le l 17
  have hpre := rBest_pre l 17
  have hmax := rBest_max l 17
  generalize rBest l 17 = r at hle hpre hmax ⊢
  cases l with
  | nil =>
    rcases Nat.eq_zero_or_pos r with h | h
    · subst h; exact ⟨rfl, rfl⟩
    · have h1 := (preOp_iff _ _).1 (hpre (by omega))
      have h2 := (opText_len r (by omega)).2 (by omega)
      simp only [List.length_nil] at h1
      omega
  | cons c l =>
    by_cases hc : clsOf c.toNat = 3
    · have e : opAtC (c :: l) = opAtN (c :: l) (min 3 (c :: l).length) := by simp only [opAtC]; rw [if_pos hc]
      rw [e]
      obtain ⟨h1, h2, h3, h4⟩ := opAtN_spec (c :: l) (min 3 (c :: l).length)
      generalize opAtN (c :: l) (min 3 (c :: l).length) = q at h1 h2 h3 h4
      obtain ⟨q, n⟩ := q
      simp only at h1 h2 h3 h4 ⊢
      rcases Nat.eq_zero_or_pos n with hn | hn
      · subst hn
        rw [if_pos rfl] at h2
        rcases Nat.eq_zero_or_pos r with h | h
        · subst h; exact ⟨h2, rfl⟩
        · obtain ⟨a, b⟩ := (preOp_iff _ _).1 (hpre (by omega))
          obtain ⟨x, y⟩ := opText_len r (by omega)
          have := h4 _ (y (by omega)) (by omega)
          rw [b, opIs_of r h hle] at this
          omega
      · rw [if_neg (by omega)] at h2
        have h5 := h3 (by omega)
        have h6 : opText (q : Nat) = (c :: l).take n := by rw [h2]; exact opIs_text _ (by rw [← h2]; exact h5)
        have hq17 : q ≤ 17 := by rw [h2]; exact opIs_le _
        have h7 : (opText (q : Nat)).length = n := by rw [h6, List.length_take]; omega
        have h8 : preOp (c :: l) q = true := (preOp_iff _ _).2 ⟨by rw [h7]; omega, by rw [h7, h6]⟩
        have h9 := hmax q (by omega) hq17 h8
        have hr : r ≠ 0 := by
          rintro rfl
          have : (opText ((0 : Nat) : Int)).length = 0 := rfl
          omega
        obtain ⟨a, b⟩ := (preOp_iff _ _).1 (hpre hr)
        obtain ⟨x, y⟩ := opText_len r (by omega)
        have h10 : (opText (r : Nat)).length ≤ n := by
          rcases Nat.lt_or_ge n (opText (r : Nat)).length with hlt | hge
          · have := h4 _ hlt (by omega)
            rw [b, opIs_of r (by omega) hle] at this
            omega
          · exact hge
        have h11 : (opText (r : Nat)).length = n := by omega
        have h12 : q = r := opText_inj q (by omega) r (by omega) (by rw [h6, ← b, h11])
        exact ⟨h12, h11.symm⟩
    · have e : opAtC (c :: l) = (0, 0) := by simp only [opAtC]; rw [if_neg hc]
      rw [e]
      rcases Nat.eq_zero_or_pos r with h | h
      · subst h; exact ⟨rfl, rfl⟩
      · obtain ⟨a, b⟩ := (preOp_iff _ _).1 (hpre (by omega))
        obtain ⟨x, y⟩ := opText_len r (by omega)
        have hh := opText_head r (by omega)
        have hy := y (by omega)
        cases ht : opText (r : Nat) with
        | nil => rw [ht] at hy; simp at hy
        | cons d t =>
          rw [ht] at b hh
          simp only [List.length_cons, List.take_succ_cons, List.cons.injEq] at b
          simp only [List.take_succ_cons, List.take_zero, List.all_cons, List.all_nil, Bool.and_true, beq_iff_eq] at hh
          rw [← b.1] at hh
          exact absurd hh hc

set_option maxHeartbeats 800000 in
theorem rat_any (s : ByteArray) (n : Nat) (w : World) (hs : s.size ≤ 1000000000) (hn : n ≤ s.size) :
    Calls Try.prog 10 #[.string s, .int .i64 n] w fun e w' => e = .returned (.int .i64 (rBest (s.data.toList.drop n) 17)) ∧ w = w' := by
  have hsub : (s.size : Int) - n = ((s.size - n : Nat) : Int) := by omega
  go_enter Try.func10, Try.ntmps10
  go_wp2
  go_loop [5, 6] (fun b i => ∃ k : Nat, k ≤ 17 ∧ i = .int .i64 ((k : Int) + 1) ∧ b = .int .i64 (rBest (s.data.toList.drop n) k)) (fun _ i => 20 - (intOf i).toNat)
  case atStart => exact ⟨0, by omega, rfl, rfl⟩
  case round =>
    obtain ⟨k, hk, rfl, rfl⟩ := hrel
    by_cases hlt : k < 17
    · have hb := rBest_le (s.data.toList.drop n) k
      have HX : Hid (rBest (s.data.toList.drop n) (k + 1) = if preOp (s.data.toList.drop n) (k + 1) && decide ((opText (rBest (s.data.toList.drop n) k)).length < (opText (k + 1 : Nat)).length) then k + 1 else rBest (s.data.toList.drop n) k) := rfl
      generalize rBest (s.data.toList.drop n) k = b at hb HX
      have H1 := rtext_any ((k : Int) + 1) w (by unfold I64; omega)
      have H2 := rtext_any b w (by unfold I64; omega)
      have hT3 := opStr_size ((k : Int) + 1)
      have hB3 := opStr_size b
      have HP : Hid (preOp (s.data.toList.drop n) (k + 1) = (decide ((opStr ((k : Int) + 1)).size ≤ s.size - n) && ((s.data.toList.drop n).take (opStr ((k : Int) + 1)).size == (opStr ((k : Int) + 1)).data.toList))) := by
        show _ = _
        rw [preOp, List.length_drop, size_list]; rfl
      have HQ : Hid (decide ((opText b).length < (opText (k + 1 : Nat)).length) = decide ((opStr b).size < (opStr ((k : Int) + 1)).size)) := rfl
      generalize opStr ((k : Int) + 1) = T at H1 hT3 HP HQ
      generalize opStr b = B at H2 hB3 HQ
      by_cases c1 : T.size ≤ s.size - n
      · have hz := ext_list s n (n + T.size)
        rw [show n + T.size - n = T.size by omega] at hz
        have HZ := hid hz
        clear hz
        cases c2 : ((s.extract n (n + T.size)).toList == T.toList)
        · have HR : Hid (rBest (s.data.toList.drop n) (k + 1) = b) := by
            show _ = _
            rw [ByteArray.toList_eq, ByteArray.toList_eq, HZ.out] at c2
            rw [HX.out, HP.out, c2]; simp
          go_wp2_with (go_at_call 11; (with_reducible refine H1.mono ?_); clear H1; rintro e w' ⟨rfl, rfl⟩)
          go_round
          case rel => exact ⟨k + 1, by omega, by go_num, by rw [HR.out]⟩
          case measure => simp [intOf]; omega
        · by_cases c3 : B.size < T.size
          · have e3 : decide (B.size < T.size) = true := by simpa using c3
            have HR : Hid (rBest (s.data.toList.drop n) (k + 1) = k + 1) := by
              show _ = _
              rw [ByteArray.toList_eq, ByteArray.toList_eq, HZ.out] at c2
              rw [HX.out, HP.out, HQ.out, c2]; simp [c1, c3]
            go_wp2_with (first
              | (go_at_call 11; (with_reducible refine H1.mono ?_); clear H1; rintro e w' ⟨rfl, rfl⟩)
              | (go_at_call 11; (with_reducible refine H2.mono ?_); clear H2; rintro e w' ⟨rfl, rfl⟩))
            go_round
            case rel => exact ⟨k + 1, by omega, by go_num, by rw [HR.out]; rfl⟩
            case measure => simp [intOf]; omega
          · have e3 : decide (B.size < T.size) = false := by simpa using c3
            have HR : Hid (rBest (s.data.toList.drop n) (k + 1) = b) := by
              show _ = _
              rw [HX.out, HQ.out]; simp [c3]
            go_wp2_with (first
              | (go_at_call 11; (with_reducible refine H1.mono ?_); clear H1; rintro e w' ⟨rfl, rfl⟩)
              | (go_at_call 11; (with_reducible refine H2.mono ?_); clear H2; rintro e w' ⟨rfl, rfl⟩))
            go_round
            case rel => exact ⟨k + 1, by omega, by go_num, by rw [HR.out]⟩
            case measure => simp [intOf]; omega
      · have HR : Hid (rBest (s.data.toList.drop n) (k + 1) = b) := by
          show _ = _
          rw [HX.out, HP.out]; simp [c1]
        go_wp2_with (go_at_call 11; (with_reducible refine H1.mono ?_); clear H1; rintro e w' ⟨rfl, rfl⟩)
        go_round
        case rel => exact ⟨k + 1, by omega, by go_num, by rw [HR.out]⟩
        case measure => simp [intOf]; omega
    · go_wp2
      go_ret
      exact ⟨ret_int (by rw [show k = 17 by omega]), rfl⟩
end Go.Proofs.Ytkbdgokmcdopgaa
