/-
  Contracts of oper.At, Tight, Redirects, Ends.
-/
import Derived.Test.YtkbdgokmcdopgaaOa
namespace Go.Proofs.Ytkbdgokmcdopgaa
open Go.RowKit
set_option linter.unusedVariables false
set_option linter.unusedSimpArgs false

def opAtN (l : List UInt8) : Nat → Nat × Nat
  | 0 => (0, 0)
  | n + 1 => if opIs (l.take (n + 1)) ≠ 0 then (opIs (l.take (n + 1)), n + 1) else opAtN l n

def opAtC : List UInt8 → Nat × Nat
  | [] => (0, 0)
  | c :: l => if clsOf c.toNat = 3 then opAtN (c :: l) (min 3 (c :: l).length) else (0, 0)

@[irreducible] def opAt (l : List UInt8) (a : Int) : Nat × Nat := if a < 0 then (0, 0) else opAtC (l.drop a.toNat)

theorem opAt_eq (l : List UInt8) (n : Nat) : opAt l n = opAtC (l.drop n) := by
  unfold opAt; rw [if_neg (by omega)]; rfl

theorem opAtC_nil (l : List UInt8) (n : Nat) (h : l.length ≤ n) : opAtC (l.drop n) = (0, 0) := by
  rw [List.drop_of_length_le h]; rfl

set_option maxHeartbeats 800000 in
theorem operAt_out (s : ByteArray) (a : Int) (w : World) (hs : s.size ≤ 1000000000) (ha : I64 a) (h : a < 0 ∨ (s.size : Int) ≤ a) :
    Calls Try.prog 9 #[.string s, .int .i64 a] w fun e w' => e = .returned (.tuple #[.int .i64 0, .int .i64 0]) ∧ w = w' := by
  unfold I64 at ha
  by_cases h1 : a < 0
  · clear h
    go_enter Try.func9, Try.ntmps9
    go_wp2
    go_step3
    go_wp2
    try rw [Exit.noGoto_ret]
    go_ret2
    exact ⟨rfl, rfl⟩
  · have h2 : (s.size : Int) ≤ a := by omega
    clear h
    go_enter Try.func9, Try.ntmps9
    go_wp2
    go_step3
    go_wp2
    try rw [Exit.noGoto_ret]
    go_ret2
    exact ⟨rfl, rfl⟩

set_option maxHeartbeats 800000 in
theorem operAt_in (s : ByteArray) (n : Nat) (w : World) (hs : s.size ≤ 1000000000) (hn : n < s.size) :
    Calls Try.prog 9 #[.string s, .int .i64 n] w fun e w' => e = .returned (.tuple #[.int .i64 (opAt s.data.toList n).1, .int .i64 (opAt s.data.toList n).2]) ∧ w = w' := by
  have HC := of_any s[n].toNat w (byte_lo _) (byte_hi _)
  have e1 : decide ((n : Int) < 0) = false := by simp
  have e2 : decide (s.size ≤ n) = false := by simp; omega
  have hD := drop_cons s n hn
  by_cases h3 : clsOf s[n].toNat = 3
  · rw [h3] at HC
    obtain ⟨m, hm, hmin⟩ : ∃ m : Nat, m ≤ s.size - n ∧ m = min 3 (s.size - n) := ⟨_, Nat.min_le_right _ _, rfl⟩
    have HO : Hid (opAt s.data.toList n = opAtN (s.data.toList.drop n) m) := by
      show _ = _
      rw [opAt_eq, hD]
      show (if clsOf s[n].toNat = 3 then _ else _) = _
      rw [if_pos h3, ← hD, List.length_drop, size_list, ← hmin]
    clear h3 hD
    by_cases hb : 3 ≤ s.size - n
    · obtain rfl : m = 3 := by omega
      clear hmin
      go_enter Try.func9, Try.ntmps9
      go_wp2
      go_step3
      go_wp2_with (go_at_call 20; (with_reducible refine HC.mono ?_); rintro e w' ⟨rfl, rfl⟩)
      go_step3
      go_wp2
      go_loop [4, 5] (fun o i => ∃ k : Nat, n + k ≤ s.size ∧ o = .int .i64 0 ∧ i = .int .i64 k ∧ opAt s.data.toList n = opAtN (s.data.toList.drop n) k) (fun _ i => (intOf i).toNat)
      case atStart => exact ⟨3, by omega, rfl, rfl, HO.out⟩
      case round =>
        obtain ⟨k, hk, rfl, rfl, hn'⟩ := hrel
        have HN := hid hn'
        clear hn'
        by_cases hlt : 0 < k
        · have hz := ext_size s n (n + k) (by omega)
          have H := operOf_any (s.extract n (n + k)) w
          rw [ext_list, show n + k - n = k by omega] at H
          clear hz
          have HX : Hid (opAtN (s.data.toList.drop n) k = if opIs ((s.data.toList.drop n).take k) ≠ 0 then (opIs ((s.data.toList.drop n).take k), k) else opAtN (s.data.toList.drop n) (k - 1)) := by
            show _ = _
            obtain ⟨j, rfl⟩ : ∃ j, k = j + 1 := ⟨k - 1, by omega⟩
            rfl
          by_cases h0 : opIs ((s.data.toList.drop n).take k) = 0
          · rw [h0] at H
            have HB : Hid (opAt s.data.toList n = opAtN (s.data.toList.drop n) (k - 1)) := by
              show _ = _
              rw [HN.out, HX.out, if_neg (by simpa using h0)]
            clear h0 HN HX
            go_wp2_with (go_at_call 12; (with_reducible refine H.mono ?_); rintro e w' ⟨rfl, rfl⟩)
            go_round
            case rel => exact ⟨k - 1, by omega, rfl, congrArg (Value.int .i64) (by omega), HB.out⟩
            case measure => simp [intOf]; omega
          · have HB : Hid (opAt s.data.toList n = (opIs ((s.data.toList.drop n).take k), k)) := by
              show _ = _
              rw [HN.out, HX.out, if_pos h0]
            obtain ⟨q, hq⟩ : ∃ q, opIs ((s.data.toList.drop n).take k) = q := ⟨_, rfl⟩
            rw [hq] at H HB h0
            clear hq HN HX
            have e0 : ((q : Int) != 0) = true := bneT (by omega)
            go_wp2_with (go_at_call 12; (with_reducible refine H.mono ?_); rintro e w' ⟨rfl, rfl⟩)
            try rw [Exit.noGoto_ret]
            go_ret2
            exact ⟨by rw [HB.out]; rfl, rfl⟩
        · obtain rfl : k = 0 := by omega
          go_wp2
          try rw [Exit.noGoto_ret]
          go_ret2
          exact ⟨by rw [HN.out]; rfl, rfl⟩
    · obtain rfl : m = s.size - n := by omega
      clear hmin
      go_enter Try.func9, Try.ntmps9
      go_wp2
      go_step3
      go_wp2_with (go_at_call 20; (with_reducible refine HC.mono ?_); rintro e w' ⟨rfl, rfl⟩)
      go_step3
      go_wp2
      go_loop [4, 5] (fun o i => ∃ k : Nat, n + k ≤ s.size ∧ o = .int .i64 0 ∧ i = .int .i64 k ∧ opAt s.data.toList n = opAtN (s.data.toList.drop n) k) (fun _ i => (intOf i).toNat)
      case atStart => exact ⟨s.size - n, by omega, rfl, congrArg (Value.int .i64) (by omega), HO.out⟩
      case round =>
        obtain ⟨k, hk, rfl, rfl, hn'⟩ := hrel
        have HN := hid hn'
        clear hn'
        by_cases hlt : 0 < k
        · have hz := ext_size s n (n + k) (by omega)
          have H := operOf_any (s.extract n (n + k)) w
          rw [ext_list, show n + k - n = k by omega] at H
          clear hz
          have HX : Hid (opAtN (s.data.toList.drop n) k = if opIs ((s.data.toList.drop n).take k) ≠ 0 then (opIs ((s.data.toList.drop n).take k), k) else opAtN (s.data.toList.drop n) (k - 1)) := by
            show _ = _
            obtain ⟨j, rfl⟩ : ∃ j, k = j + 1 := ⟨k - 1, by omega⟩
            rfl
          by_cases h0 : opIs ((s.data.toList.drop n).take k) = 0
          · rw [h0] at H
            have HB : Hid (opAt s.data.toList n = opAtN (s.data.toList.drop n) (k - 1)) := by
              show _ = _
              rw [HN.out, HX.out, if_neg (by simpa using h0)]
            clear h0 HN HX
            go_wp2_with (go_at_call 12; (with_reducible refine H.mono ?_); rintro e w' ⟨rfl, rfl⟩)
            go_round
            case rel => exact ⟨k - 1, by omega, rfl, congrArg (Value.int .i64) (by omega), HB.out⟩
            case measure => simp [intOf]; omega
          · have HB : Hid (opAt s.data.toList n = (opIs ((s.data.toList.drop n).take k), k)) := by
              show _ = _
              rw [HN.out, HX.out, if_pos h0]
            obtain ⟨q, hq⟩ : ∃ q, opIs ((s.data.toList.drop n).take k) = q := ⟨_, rfl⟩
            rw [hq] at H HB h0
            clear hq HN HX
            have e0 : ((q : Int) != 0) = true := bneT (by omega)
            go_wp2_with (go_at_call 12; (with_reducible refine H.mono ?_); rintro e w' ⟨rfl, rfl⟩)
            try rw [Exit.noGoto_ret]
            go_ret2
            exact ⟨by rw [HB.out]; rfl, rfl⟩
        · obtain rfl : k = 0 := by omega
          go_wp2
          try rw [Exit.noGoto_ret]
          go_ret2
          exact ⟨by rw [HN.out]; rfl, rfl⟩
  · have e3 : (clsOf s[n].toNat != 3) = true := bneT h3
    have e4 : decide ((n : Int) < 0) = false := by simp
    have HO : Hid (opAt s.data.toList n = (0, 0)) := by
      show _ = _
      rw [opAt_eq, hD]
      show (if clsOf s[n].toNat = 3 then _ else _) = _
      rw [if_neg h3]
    clear h3 hD
    go_enter Try.func9, Try.ntmps9
    go_wp2
    go_step3
    go_wp2_with (go_at_call 20; (with_reducible refine HC.mono ?_); rintro e w' ⟨rfl, rfl⟩)
    try rw [Exit.noGoto_ret]
    go_ret2
    exact ⟨by rw [HO.out]; rfl, rfl⟩
end Go.Proofs.Ytkbdgokmcdopgaa
