/-
  The laws of the byte classes, as walks: the Go text returns true.
-/
import Derived.Test.YtffajemlbkpmeaaCf
import Derived.WalkSmall
namespace Go.Proofs.Ytffajemlbkpmeaa
open Go.RowKit
set_option linter.unusedVariables false
set_option linter.unusedSimpArgs false

theorem blw {w : World} : Below w.heap.size w w := Below.refl _ _
theorem blwN {w : World} (k : Nat) : Below w.heap.size w (w.drewN k) := below_drewN (Below.refl _ _) k

theorem awake4_any (w : World) : Calls Try.prog 9 #[] w fun e w' => e = .returned (.bool true) ∧ w = w' := by
  have H1 := name_any ⟨#[120, 49, 61, 50]⟩ 0 w (by decide) (by unfold I64; omega)
  have H2 := param_in ⟨#[63, 97]⟩ 0 w (by decide) (by decide)
  rw [show nameS (⟨#[120, 49, 61, 50]⟩ : ByteArray).data.toList 0 = 2 by decide +kernel] at H1
  rw [show ((0 : Nat) : Int) = 0 from rfl] at H2
  rw [show paramS (⟨#[63, 97]⟩ : ByteArray).data.toList 0 = 1 by decide +kernel] at H2
  go_enter Try.func9, Try.ntmps9
  go_wp2_with (first
    | (go_at_call 10; (with_reducible refine H1.mono ?_); rintro e w' ⟨rfl, rfl⟩)
    | (go_at_call 13; (with_reducible refine H2.mono ?_); rintro e w' ⟨rfl, rfl⟩))
  go_ret
  exact ⟨rfl, rfl⟩

set_option maxHeartbeats 800000 in
theorem classBytes_law (b : Int) (w : World) (h0 : 0 ≤ b) (h1 : b ≤ 255) :
    Calls Try.prog 7 #[.int .u8 b] w fun e w' => e = .returned (.bool true) ∧ Below w.heap.size w w' := by
  go_enter Try.func7, Try.ntmps7
  go_wp2_with (first
    | (go_at_call 9; (with_reducible refine (awake4_any _).mono ?_); rintro e w' ⟨rfl, rfl⟩)
    | (go_at_call 23; (with_reducible refine (of_any _ _ h0 h1).mono ?_); rintro e w' ⟨rfl, rfl⟩)
    | (go_at_call 24; (with_reducible refine (rclass_any _ _ h0 h1).mono ?_); rintro e w' ⟨rfl, rfl⟩)
    | (go_at_call 25; (with_reducible refine (ends_any _ _ h0 h1).mono ?_); rintro e w' ⟨rfl, rfl⟩)
    | (go_at_call 26; (with_reducible refine (rends_any _ _ h0 h1).mono ?_); rintro e w' ⟨rfl, rfl⟩)
    | (go_at_call 27; (with_reducible refine (safe_any _ _ h0 h1).mono ?_); rintro e w' ⟨rfl, rfl⟩)
    | (go_at_call 28; (with_reducible refine (rsafe_any _ _ h0 h1).mono ?_); rintro e w' ⟨rfl, rfl⟩))
  go_ret
  exact ⟨rfl, blw⟩

theorem resL_len (l : List UInt8) (h : resL l = true) : l.length ≤ 100 := by
  obtain ⟨_, _, i, h1, _⟩ := resL_hit l h; omega

set_option maxHeartbeats 800000 in
theorem classReserved_law (s : ByteArray) (w : World) (hs : s.size ≤ maxLen) :
    Calls Try.prog 4 #[.string s] w fun e w' => e = .returned (.bool true) ∧ Below w.heap.size w w' := by
  unfold maxLen at hs
  have HW := reserved_any s w
  by_cases h : s.size ≤ 100
  · go_enter Try.func4, Try.ntmps4
    go_wp2_with (first
      | (go_at_call 9; (with_reducible refine (awake4_any _).mono ?_); rintro e w' ⟨rfl, rfl⟩)
      | (go_at_call 17; (with_reducible refine HW.mono ?_); rintro e w' ⟨rfl, rfl⟩)
      | (go_at_call 18; (with_reducible refine (rreserved_any _ _ (by omega)).mono ?_); rintro e w' ⟨rfl, rfl⟩))
    go_ret
    exact ⟨rfl, blw⟩
  · have hr : resL s.data.toList = false := by
      cases hr : resL s.data.toList
      · rfl
      · have := resL_len _ hr; rw [size_list] at this; omega
    rw [hr] at HW
    clear hr
    go_enter Try.func4, Try.ntmps4
    go_wp2_with (first
      | (go_at_call 9; (with_reducible refine (awake4_any _).mono ?_); rintro e w' ⟨rfl, rfl⟩)
      | (go_at_call 17; (with_reducible refine HW.mono ?_); rintro e w' ⟨rfl, rfl⟩))
    go_ret
    exact ⟨rfl, blw⟩

set_option maxHeartbeats 800000 in
theorem classNames_law (s : ByteArray) (w : World) (hs : s.size ≤ maxLen) :
    Calls Try.prog 6 #[.string s] w fun e w' => e = .returned (.bool true) ∧ Below w.heap.size w w' := by
  unfold maxLen at hs
  by_cases h : s.size ≤ 100
  · have HA := rassign_any s w (by omega)
    have HN := fun w => isName_any s w (by omega)
    have HR := fun w => risName_any s w (by omega)
    rcases Nat.eq_zero_or_pos (assignS s.data.toList) with h0 | h0
    · have H1 := assign_no s w (by omega) h0
      rw [h0] at HA
      clear h0
      go_enter Try.func6, Try.ntmps6
      go_wp2_with (first
        | (go_at_call 9; (with_reducible refine (awake4_any _).mono ?_); rintro e w' ⟨rfl, rfl⟩)
        | (go_at_call 21; (with_reducible refine HA.mono ?_); rintro e w' ⟨rfl, rfl⟩)
        | (go_at_call 19; (with_reducible refine H1.mono ?_); rintro e w' ⟨rfl, rfl⟩)
        | (go_at_call 22; (with_reducible refine (HN _).mono ?_); rintro e w' ⟨rfl, rfl⟩)
        | (go_at_call 20; (with_reducible refine (HR _).mono ?_); rintro e w' ⟨rfl, rfl⟩))
      go_ret
      exact ⟨rfl, blw⟩
    · obtain ⟨n, hn⟩ : ∃ n, assignS s.data.toList = n := ⟨_, rfl⟩
      have hlt := assignS_lt s.data.toList (by omega)
      rw [size_list, hn] at hlt
      have H1 := assign_yes s w n (by omega) hn (by omega)
      rw [hn] at HA h0
      clear hn
      go_enter Try.func6, Try.ntmps6
      go_wp2_with (first
        | (go_at_call 9; (with_reducible refine (awake4_any _).mono ?_); rintro e w' ⟨rfl, rfl⟩)
        | (go_at_call 21; (with_reducible refine HA.mono ?_); rintro e w' ⟨rfl, rfl⟩)
        | (go_at_call 19; (with_reducible refine H1.mono ?_); rintro e w' ⟨rfl, k, rfl⟩)
        | (go_at_call 22; (with_reducible refine (HN _).mono ?_); rintro e w' ⟨rfl, rfl⟩)
        | (go_at_call 20; (with_reducible refine (HR _).mono ?_); rintro e w' ⟨rfl, rfl⟩))
      go_ret
      exact ⟨rfl, blwN _⟩
  · go_enter Try.func6, Try.ntmps6
    go_wp2_with (go_at_call 9; (with_reducible refine (awake4_any _).mono ?_); rintro e w' ⟨rfl, rfl⟩)
    go_ret
    exact ⟨rfl, blw⟩

set_option maxHeartbeats 800000 in
theorem classMeasures_law (s : ByteArray) (a : Int) (w : World) (hs : s.size ≤ maxLen) (ha : I64 a) :
    Calls Try.prog 3 #[.string s, .int .i64 a] w fun e w' => e = .returned (.bool true) ∧ Below w.heap.size w w' := by
  unfold maxLen at hs
  have ha2 := ha
  unfold I64 at ha2
  by_cases h : s.size ≤ 100
  · by_cases ho : a < 0 ∨ (s.size : Int) ≤ a
    · have ho2 : a < 0 ∨ (s.data.toList.length : Int) ≤ a := by rw [size_list]; exact ho
      have H1 := name_any s a w (by omega) ha
      have H2 := digits_any s a w (by omega) ha
      have H3 := blanks_any s a w (by omega) ha
      have H4 := param_out s a w (by omega) ha ho
      rw [nameS_out _ _ ho2] at H1
      rw [spanS, if_pos ho2] at H2 H3
      clear ho2
      by_cases h1 : a < 0
      all_goals
        have h2 : (s.size : Int) ≤ a ∨ a < 0 := by omega
        clear ho
        go_enter Try.func3, Try.ntmps3
        go_wp2_with (first
          | (go_at_call 9; (with_reducible refine (awake4_any _).mono ?_); rintro e w' ⟨rfl, rfl⟩)
          | (go_at_call 10; (with_reducible refine H1.mono ?_); rintro e w' ⟨rfl, rfl⟩)
          | (go_at_call 11; (with_reducible refine H2.mono ?_); rintro e w' ⟨rfl, rfl⟩)
          | (go_at_call 12; (with_reducible refine H3.mono ?_); rintro e w' ⟨rfl, rfl⟩)
          | (go_at_call 13; (with_reducible refine H4.mono ?_); rintro e w' ⟨rfl, rfl⟩))
        go_ret
        exact ⟨rfl, blw⟩
    · obtain ⟨n, rfl⟩ : ∃ n : Nat, a = n := ⟨a.toNat, by omega⟩
      have hn : n < s.size := by omega
      have hn2 : n < s.data.toList.length := by rw [size_list]; exact hn
      have H1 := name_any s n w (by omega) ha
      have H2 := digits_any s n w (by omega) ha
      have H3 := blanks_any s n w (by omega) ha
      have H4 := param_in s n w (by omega) hn
      have R1 := rname_any s n w (by omega) (by omega)
      have R2 := rrow_any s n 6 w (by omega) (by omega) (by unfold I64; omega)
      have R3 := rrow_any s n 1 w (by omega) (by omega) (by unfold I64; omega)
      have R4 := rparam_any s n w (by omega) hn
      rw [← size_list s, ← nameS_eq _ _ hn2] at R1
      have e6 : ∀ c, lastK (fun k => allCls c ((s.data.toList.drop n).take k)) (s.size - n) = spanL (fun b => clsOf b == c) (s.data.toList.drop n) := by
        intro c
        have := rowR_eq c (s.data.toList.drop n)
        rw [rowR, List.length_drop, size_list] at this
        exact this
      rw [e6, ← spanS_in hn] at R2 R3
      clear e6 ho hn2
      have e1 : decide ((n : Int) < 0) = false := by simp
      have e2 : decide (s.size ≤ n) = false := by simp; omega
      go_enter Try.func3, Try.ntmps3
      go_wp2_with (first
        | (go_at_call 9; (with_reducible refine (awake4_any _).mono ?_); rintro e w' ⟨rfl, rfl⟩)
        | (go_at_call 10; (with_reducible refine H1.mono ?_); rintro e w' ⟨rfl, rfl⟩)
        | (go_at_call 11; (with_reducible refine H2.mono ?_); rintro e w' ⟨rfl, rfl⟩)
        | (go_at_call 12; (with_reducible refine H3.mono ?_); rintro e w' ⟨rfl, rfl⟩)
        | (go_at_call 13; (with_reducible refine H4.mono ?_); rintro e w' ⟨rfl, rfl⟩)
        | (go_at_call 14; (with_reducible refine R1.mono ?_); rintro e w' ⟨rfl, rfl⟩)
        | (go_at_call 15; (with_reducible refine R2.mono ?_); clear R2; rintro e w' ⟨rfl, rfl⟩)
        | (go_at_call 15; (with_reducible refine R3.mono ?_); rintro e w' ⟨rfl, rfl⟩)
        | (go_at_call 16; (with_reducible refine R4.mono ?_); rintro e w' ⟨rfl, rfl⟩))
      go_ret
      exact ⟨rfl, blw⟩
  · go_enter Try.func3, Try.ntmps3
    go_wp2_with (go_at_call 9; (with_reducible refine (awake4_any _).mono ?_); rintro e w' ⟨rfl, rfl⟩)
    go_ret
    exact ⟨rfl, blw⟩

theorem goodA_mid (a v : List UInt8) (h : isNameL a = true) : goodA (a ++ (61 :: v)) a.length = true := by
  simp [goodA, h]
theorem isNameL_pos (a : List UInt8) (h : isNameL a = true) : a.length ≠ 0 := by
  cases a with
  | nil => simp [isNameL] at h
  | cons => simp

set_option maxHeartbeats 800000 in
theorem classWhole_law (a v : ByteArray) (w : World) (ha : a.size ≤ maxLen) (hv : v.size ≤ maxLen) :
    Calls Try.prog 5 #[.string a, .string v] w fun e w' => e = .returned (.bool true) ∧ Below w.heap.size w w' := by
  unfold maxLen at ha hv
  by_cases h1 : a.size ≤ 100
  · by_cases h2 : v.size ≤ 100
    · have HR := fun w => risName_any a w (by omega)
      obtain ⟨W, hW⟩ : ∃ W : ByteArray, a ++ { data := #[61] } ++ v = W := ⟨_, rfl⟩
      have hD : W.data.toList = a.data.toList ++ (61 :: v.data.toList) := by rw [← hW, ByteArray.data_append, ByteArray.data_append, Array.toList_append, Array.toList_append]; simp
      have hz : W.size = a.size + v.size + 1 := by rw [← size_list W, hD, List.length_append, List.length_cons, size_list, size_list]; omega
      cases hb : isNameL a.data.toList
      · have hB : Hid (isNameL a.data.toList = false) := hb
        rcases Nat.eq_zero_or_pos (assignS W.data.toList) with h0 | h0
        · have H1 := assign_no W w (by omega) h0
          rw [hb] at HR
          clear h0 hD hb
          go_enter Try.func5, Try.ntmps5
          go_wp2_with (first
            | (go_at_call 9; (with_reducible refine (awake4_any _).mono ?_); rintro e w' ⟨rfl, rfl⟩)
            | (go_at_call 19; (with_reducible refine H1.mono ?_); rintro e w' ⟨rfl, rfl⟩)
            | (go_at_call 20; (with_reducible refine (HR _).mono ?_); rintro e w' ⟨rfl, rfl⟩))
          go_ret
          exact ⟨rfl, blw⟩
        · obtain ⟨n, hn⟩ : ∃ n, assignS W.data.toList = n := ⟨_, rfl⟩
          have hlt := assignS_lt W.data.toList (by omega)
          rw [size_list, hn] at hlt
          have H1 := assign_yes W w n (by omega) hn (by omega)
          have e1 : ((W.extract 0 n).toList == a.toList) = false := by
            have hg := (goodA_iff W.data.toList n (by omega)).2 hn
            simp only [goodA, Bool.and_eq_true] at hg
            cases he : ((W.extract 0 n).toList == a.toList)
            · rfl
            · have : (W.extract 0 n).toList = a.toList := by simpa using he
              rw [ByteArray.toList_eq, ByteArray.toList_eq, ext_zero] at this
              rw [this, hb] at hg
              exact absurd hg.2 (by simp)
          rw [hb] at HR
          clear hn h0 hD hb
          go_enter Try.func5, Try.ntmps5
          go_wp2_with (first
            | (go_at_call 9; (with_reducible refine (awake4_any _).mono ?_); rintro e w' ⟨rfl, rfl⟩)
            | (go_at_call 19; (with_reducible refine H1.mono ?_); rintro e w' ⟨rfl, k, rfl⟩)
            | (go_at_call 20; (with_reducible refine (HR _).mono ?_); rintro e w' ⟨rfl, rfl⟩))
          go_ret
          exact ⟨rfl, blwN _⟩
      · have hp := isNameL_pos _ hb
        have hn : assignS W.data.toList = a.size := by rw [hD, ← size_list a]; exact (goodA_iff _ _ hp).1 (goodA_mid _ _ hb)
        rw [size_list] at hp
        have H1 := assign_yes W w a.size (by omega) hn hp
        have e1 : ((W.extract 0 a.size).toList == a.toList) = true := by
          rw [ByteArray.toList_eq, ByteArray.toList_eq, ext_zero, hD, ← size_list a]; simp
        have e2 : ((W.extract (a.size + 1) W.size).toList == v.toList) = true := by
          rw [ByteArray.toList_eq, ByteArray.toList_eq, ext_list, hD, hz, List.drop_append, List.drop_of_length_le (by rw [size_list]; omega), size_list, show a.size + 1 - a.size = 1 by omega, List.take_of_length_le (by simp)]
          simp
        have hz1 : W.size ≤ a.size + v.size + 1 := by omega
        have hz2 : a.size + v.size + 1 ≤ W.size := by omega
        rw [hb] at HR
        clear hn hD hb hp hz
        go_enter Try.func5, Try.ntmps5
        go_wp2_with (first
          | (go_at_call 9; (with_reducible refine (awake4_any _).mono ?_); rintro e w' ⟨rfl, rfl⟩)
          | (go_at_call 19; (with_reducible refine H1.mono ?_); rintro e w' ⟨rfl, k, rfl⟩)
          | (go_at_call 20; (with_reducible refine (HR _).mono ?_); rintro e w' ⟨rfl, rfl⟩))
        go_ret
        exact ⟨rfl, blwN _⟩
    · go_enter Try.func5, Try.ntmps5
      go_wp2_with (go_at_call 9; (with_reducible refine (awake4_any _).mono ?_); rintro e w' ⟨rfl, rfl⟩)
      go_ret
      exact ⟨rfl, blw⟩
  · go_enter Try.func5, Try.ntmps5
    go_wp2_with (go_at_call 9; (with_reducible refine (awake4_any _).mono ?_); rintro e w' ⟨rfl, rfl⟩)
    go_ret
    exact ⟨rfl, blw⟩
end Go.Proofs.Ytffajemlbkpmeaa
