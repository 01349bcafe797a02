/-
  Contracts of the operators' texts: oper.Text, short, Of, Redirects, Ends and the reference's Text.
-/
import Derived.Test.YtkbdgokmcdopgaaCb
import Derived.WalkSmall
namespace Go.Proofs.Ytkbdgokmcdopgaa
open Go.RowKit
set_option linter.unusedVariables false
set_option linter.unusedSimpArgs false

theorem ret_str {a b : ByteArray} (h : a = b) : Ending.returned (.string a) = .returned (.string b) := by rw [h]

theorem ba_ext {a b : ByteArray} (h : a.data.toList = b.data.toList) : a = b := by
  cases a; cases b; simp at h; simp [h]

def opTexts : List (List UInt8) := [[38, 38], [124, 124], [59, 59], [60, 60], [60, 60, 45], [62, 62], [60, 38], [62, 38], [60, 62], [62, 124], [60], [62], [38], [59], [124], [40], [41]]
def opText (op : Int) : List UInt8 := if 1 ≤ op ∧ op ≤ 17 then opTexts.getD (op - 1).toNat [] else []
def opStr (op : Int) : ByteArray := ⟨(opText op).toArray⟩
theorem opText_out {op : Int} (h : ¬ (1 ≤ op ∧ op ≤ 17)) : opText op = [] := by rw [opText, if_neg h]

theorem opText_cases {P : Int → Prop} (op : Int) (h1 : P 1) (h2 : P 2) (h3 : P 3) (h4 : P 4) (h5 : P 5) (h6 : P 6) (h7 : P 7) (h8 : P 8) (h9 : P 9) (h10 : P 10) (h11 : P 11) (h12 : P 12) (h13 : P 13) (h14 : P 14) (h15 : P 15) (h16 : P 16) (h17 : P 17)
    (h : ¬ (1 ≤ op ∧ op ≤ 17) → P op) : P op := by
  by_cases hr : 1 ≤ op ∧ op ≤ 17
  · obtain ⟨a, b⟩ := hr
    obtain ⟨n, rfl⟩ : ∃ n : Nat, op = n := ⟨op.toNat, by omega⟩
    have : n = 1 ∨ n = 2 ∨ n = 3 ∨ n = 4 ∨ n = 5 ∨ n = 6 ∨ n = 7 ∨ n = 8 ∨ n = 9 ∨ n = 10 ∨ n = 11 ∨ n = 12 ∨ n = 13 ∨ n = 14 ∨ n = 15 ∨ n = 16 ∨ n = 17 := by omega
    rcases this with rfl | rfl | rfl | rfl | rfl | rfl | rfl | rfl | rfl | rfl | rfl | rfl | rfl | rfl | rfl | rfl | rfl <;> assumption
  · exact h hr

set_option maxHeartbeats 800000 in
theorem short_any (op : Int) (w : World) (ha : I64 op) (hn : ¬ (1 ≤ op ∧ op ≤ 9)) :
    Calls Try.prog 21 #[.int .i64 op] w fun e w' => e = .returned (.string (opStr op)) ∧ w = w' := by
  unfold I64 at ha
  go_enter Try.func21, Try.ntmps21
  go_wp2
  all_goals
    go_ret
    refine ⟨ret_str ?_, rfl⟩
    simp only [beq_iff_eq, beq_eq_false_iff_ne, ne_eq] at *
    first
      | (subst_vars; rfl)
      | (rw [opStr, opText_out (by omega)])

set_option maxHeartbeats 800000 in
theorem text_any (op : Int) (w : World) (ha : I64 op) :
    Calls Try.prog 13 #[.int .i64 op] w fun e w' => e = .returned (.string (opStr op)) ∧ w = w' := by
  have ha2 := ha
  unfold I64 at ha2
  by_cases hn : 1 ≤ op ∧ op ≤ 9
  · go_enter Try.func13, Try.ntmps13
    go_wp2_with (fail)
    all_goals first
      | (go_ret
         refine ⟨ret_str ?_, rfl⟩
         simp only [beq_iff_eq, beq_eq_false_iff_ne, ne_eq] at *
         subst_vars
         rfl)
      | (exfalso
         simp only [beq_iff_eq, beq_eq_false_iff_ne, ne_eq] at *
         omega)
  · have H := short_any op w ha hn
    go_enter Try.func13, Try.ntmps13
    go_wp2_with (go_at_call 21; (with_reducible refine H.mono ?_); rintro e w' ⟨rfl, rfl⟩)
    all_goals
      go_ret
      refine ⟨ret_str ?_, rfl⟩
      first
        | rfl
        | (simp only [beq_iff_eq, beq_eq_false_iff_ne, ne_eq] at *
           subst_vars
           rfl)

theorem opStr_size (op : Int) : (opStr op).size ≤ 3 := by
  refine opText_cases (P := fun op => (opStr op).size ≤ 3) op ?_ ?_ ?_ ?_ ?_ ?_ ?_ ?_ ?_ ?_ ?_ ?_ ?_ ?_ ?_ ?_ ?_ fun h => ?_
  case refine_18 => rw [opStr, opText_out h]; decide
  all_goals decide

/-- the operator among the first n whose text it is -/
def opOfN (l : List UInt8) : Nat → Nat
  | 0 => 0
  | n + 1 => if opOfN l n ≠ 0 then opOfN l n else if opText (n + 1 : Nat) = l then n + 1 else 0

theorem opOfN_le (l : List UInt8) (n : Nat) : opOfN l n ≤ n := by
  induction n with
  | zero => simp [opOfN]
  | succ n ih => simp only [opOfN]; split <;> (try split) <;> omega

theorem opOfN_text (l : List UInt8) (n : Nat) (h : opOfN l n ≠ 0) : opText (opOfN l n : Nat) = l := by
  induction n with
  | zero => simp [opOfN] at h
  | succ n ih =>
    simp only [opOfN] at h ⊢
    split
    · rename_i h1; exact ih h1
    · rename_i h1
      rw [if_neg h1] at h
      split
      · assumption
      · rename_i h2; rw [if_neg h2] at h; exact absurd rfl h

theorem opOfN_zero (l : List UInt8) (n : Nat) (h : opOfN l n = 0) : ∀ k : Nat, 0 < k → k ≤ n → opText k ≠ l := by
  induction n with
  | zero => intro k h1 h2; omega
  | succ n ih =>
    intro k h1 h2 he
    simp only [opOfN] at h
    by_cases h0 : opOfN l n = 0
    · rw [if_neg (by simpa using h0)] at h
      by_cases hk : k = n + 1
      · subst hk; rw [if_pos he] at h; omega
      · exact ih h0 k h1 (by omega) he
    · rw [if_pos h0] at h; omega

theorem opOfN_more (l : List UInt8) (k n : Nat) (hk : 0 < k) (h : opOfN l k = k) (hn : k ≤ n) : opOfN l n = k := by
  induction n with
  | zero => omega
  | succ n ih =>
    by_cases e : k = n + 1
    · subst e; exact h
    · have := ih (by omega)
      simp only [opOfN]
      rw [if_pos (by omega), this]

@[irreducible] def opIs (l : List UInt8) : Nat := opOfN l 17

theorem opIs_eq (l : List UInt8) : opIs l = opOfN l 17 := by unfold opIs; rfl

set_option maxHeartbeats 800000 in
theorem operOf_any (s : ByteArray) (w : World) :
    Calls Try.prog 12 #[.string s] w fun e w' => e = .returned (.int .i64 (opIs s.data.toList)) ∧ w = w' := by
  cases he : s.data.toList.isEmpty
  · have h1 : (s.toList == []) = false := by rw [ByteArray.toList_eq]; cases hh : s.data.toList <;> simp_all
    have h2 : s.toList.isEmpty = false := by rw [ByteArray.toList_eq]; exact he
    clear he
    go_enter Try.func12, Try.ntmps12
    go_wp2
    go_loop [3] (fun i => ∃ k : Nat, k ≤ 17 ∧ i = .int .i64 ((k : Int) + 1) ∧ opOfN s.data.toList k = 0) (fun i => 20 - (intOf i).toNat)
    case atStart => exact ⟨0, by omega, rfl, rfl⟩
    case round =>
      obtain ⟨k, hk, rfl, hn⟩ := hrel
      have HN := hid hn
      clear hn
      by_cases hlt : k < 17
      · have H := text_any ((k : Int) + 1) w (by unfold I64; omega)
        have HT : Hid (opText ((k + 1 : Nat) : Int) = (opStr ((k : Int) + 1)).data.toList) := rfl
        cases ht : ((opStr ((k : Int) + 1)).toList == s.toList)
        · have HB : Hid (opOfN s.data.toList (k + 1) = 0) := by
            show _ = _
            simp only [opOfN]
            rw [if_neg (by simpa using HN.out), if_neg]
            intro he
            rw [HT.out, ← ByteArray.toList_eq, ← ByteArray.toList_eq] at he
            rw [he] at ht; simp at ht
          go_wp2_with (go_at_call 13; (with_reducible refine H.mono ?_); rintro e w' ⟨rfl, rfl⟩)
          go_round
          case rel => exact ⟨k + 1, by omega, by go_num, HB.out⟩
          case measure => simp [intOf]; omega
        · have HB : Hid (k + 1 = opIs s.data.toList) := by
            show _ = _
            have h1 : opText ((k + 1 : Nat) : Int) = s.data.toList := by
              rw [HT.out, ← ByteArray.toList_eq, ← ByteArray.toList_eq]; simpa using ht
            have h2 : opOfN s.data.toList (k + 1) = k + 1 := by
              simp only [opOfN]
              rw [if_neg (by simpa using HN.out), if_pos h1]
            exact ((opIs_eq _).trans (opOfN_more _ _ _ (by omega) h2 (by omega))).symm
          have hs : opStr ((k : Int) + 1) = s := by
            apply ba_ext; rw [← HT.out]
            rw [HT.out, ← ByteArray.toList_eq, ← ByteArray.toList_eq]; simpa using ht
          rw [hs] at H
          clear hs ht HT
          go_wp2_with (go_at_call 13; (with_reducible refine H.mono ?_); rintro e w' ⟨rfl, rfl⟩)
          go_ret
          exact ⟨ret_int (by rw [← HB.out]; omega), rfl⟩
      · go_wp2
        go_ret
        refine ⟨ret_int ?_, rfl⟩
        have h2 := HN.out
        rw [show k = 17 by omega] at h2
        rw [opIs_eq, h2]; rfl
  · have h1 : (s.toList == []) = true := by rw [ByteArray.toList_eq]; cases hh : s.data.toList <;> simp_all
    have h2 : s.toList.isEmpty = true := by rw [ByteArray.toList_eq]; exact he
    have HR : Hid (0 = opIs s.data.toList) := by
      show _ = _
      have : s.data.toList = [] := by cases hh : s.data.toList <;> simp_all
      rw [this, opIs_eq]; decide +kernel
    clear he
    go_enter Try.func12, Try.ntmps12
    go_wp2
    go_ret
    exact ⟨ret_int (by rw [← HR.out]; rfl), rfl⟩
end Go.Proofs.Ytkbdgokmcdopgaa
