/-
  Contracts of the reference's names, rows and reserved words.
-/
import Derived.Test.YtffajemlbkpmeaaCb
namespace Go.Proofs.Ytffajemlbkpmeaa
open Go.RowKit
set_option linter.unusedVariables false
set_option linter.unusedSimpArgs false

def isNameL (l : List UInt8) : Bool := !l.isEmpty && (l.take 1).all (fun c => isLet c.toNat) && l.all fun c => isNam c.toNat

theorem byte_lo (c : UInt8) : (0 : Int) ≤ c.toNat := by omega
theorem byte_hi (c : UInt8) : (c.toNat : Int) ≤ 255 := by have := c.toNat_lt; omega
theorem isNam_cls {b : Int} : isNam b = true ↔ clsOf b = 5 ∨ clsOf b = 6 := by simp [isNam, isLet, isDig]
theorem size_list (s : ByteArray) : s.data.toList.length = s.size := by simp
theorem empty_iff (s : ByteArray) : s.data.toList.isEmpty = (s.size == 0) := by
  rw [← size_list s]; cases s.data.toList <;> rfl
theorem len0 {s : ByteArray} (h : s.size = 0) : s.data.toList = [] := List.length_eq_zero_iff.1 (by rw [size_list]; exact h)
theorem take_one (s : ByteArray) (h : 0 < s.size) : s.data.toList.take 1 = [s[0]] := by
  have := take_snoc s 0 h
  simpa using this

set_option maxHeartbeats 800000 in
theorem risName_any (s : ByteArray) (w : World) (hs : s.size ≤ 1000000000) :
    Calls Try.prog 20 #[.string s] w fun e w' => e = .returned (.bool (isNameL s.data.toList)) ∧ w = w' := by
  by_cases h0 : s.size = 0
  · have he : (s.size == 0) = true := by simp [h0]
    have HR : Hid (false = isNameL s.data.toList) := by show _ = _; rw [len0 h0]; rfl
    go_enter Try.func20, Try.ntmps20
    go_wp2
    go_ret
    exact ⟨ret_bool HR.out, rfl⟩
  · have hp : 0 < s.size := by omega
    have he : ((s.size : Int) == 0) = false := beqF (by omega)
    have HE : Hid ((s.size == 0) = false) := nbeqF (by omega)
    have H := rclass_any (s[0].toNat) w (byte_lo _) (byte_hi _)
    by_cases h5 : clsOf s[0].toNat = 5
    · rw [h5] at H
      have HL := hid h5
      clear h5
      go_enter Try.func20, Try.ntmps20
      go_wp2_with (go_at_call 24; (with_reducible refine H.mono ?_); rintro e w' ⟨rfl, rfl⟩)
      clear H
      go_loop [3] (fun i => ∃ k : Nat, 1 ≤ k ∧ k ≤ s.size ∧ i = .int .i64 k ∧ (s.data.toList.take k).all (fun c => isNam c.toNat) = true) (fun i => s.size - (intOf i).toNat)
      case atStart => exact ⟨1, by omega, by omega, rfl, by rw [take_one s hp]; simp [isNam, isLet, HL.out]⟩
      case round =>
        obtain ⟨k, hk1, hk, rfl, hn⟩ := hrel
        have HN := hid hn
        clear hn
        by_cases hlt : k < s.size
        · have H := rclass_any (s[k].toNat) w (byte_lo _) (byte_hi _)
          have HS := hid (take_snoc s k hlt)
          by_cases h5 : clsOf s[k].toNat = 5
          · rw [h5] at H
            have HK := hid h5
            clear h5
            go_wp2_with (go_at_call 24; (with_reducible refine H.mono ?_); rintro e w' ⟨rfl, rfl⟩)
            go_round
            case rel => exact ⟨k + 1, by omega, by omega, by go_num, by rw [HS.out, List.all_append, HN.out]; simp [isNam_cls, HK.out]⟩
            case measure => simp [intOf]; omega
          · have e5 : (clsOf s[k].toNat == 5) = false := by simpa using h5
            have n5 : (clsOf s[k].toNat != 5) = true := by simpa using h5
            by_cases h6 : clsOf s[k].toNat = 6
            · have e6 : (clsOf s[k].toNat != 6) = false := by simpa using h6
              have HK := hid h6
              clear h5 h6
              go_wp2_with (go_at_call 24; (with_reducible refine H.mono ?_); rintro e w' ⟨rfl, rfl⟩)
              go_round
              case rel => exact ⟨k + 1, by omega, by omega, by go_num, by rw [HS.out, List.all_append, HN.out]; simp [isNam_cls, HK.out]⟩
              case measure => simp [intOf]; omega
            · have e6 : (clsOf s[k].toNat != 6) = true := by simpa using h6
              have HR : Hid (false = isNameL s.data.toList) := by
                show _ = _
                have hno : isNam s[k].toNat = false := by
                  rw [← Bool.not_eq_true, isNam_cls]; omega
                have : s.data.toList.all (fun c => isNam c.toNat) = false := by
                  rw [← Bool.not_eq_true, List.all_eq_true]
                  intro ha
                  have := ha _ (get_mem s k hlt)
                  rw [hno] at this; cases this
                simp [isNameL, this]
              clear h5 h6
              go_wp2_with (go_at_call 24; (with_reducible refine H.mono ?_); rintro e w' ⟨rfl, rfl⟩)
              go_ret
              exact ⟨ret_bool HR.out, rfl⟩
        · go_wp2
          go_ret
          refine ⟨ret_bool ?_, rfl⟩
          have h2 := HN.out
          rw [take_all s k (by omega)] at h2
          rw [isNameL, h2, empty_iff, HE.out, take_one s hp]; simp [isLet, HL.out]
    · have n5 : (clsOf s[0].toNat != 5) = true := by simpa using h5
      have HR : Hid (false = isNameL s.data.toList) := by
        show _ = _
        simp [isNameL, take_one s hp, isLet, h5]
      clear h5
      go_enter Try.func20, Try.ntmps20
      go_wp2_with (go_at_call 24; (with_reducible refine H.mono ?_); rintro e w' ⟨rfl, rfl⟩)
      go_ret
      exact ⟨ret_bool HR.out, rfl⟩

def allCls (c : Int) (l : List UInt8) : Bool := l.all fun b => clsOf b.toNat == c

set_option maxHeartbeats 800000 in
theorem rall_any (s : ByteArray) (c : Int) (w : World) (hs : s.size ≤ 1000000000) (hc : I64 c) :
    Calls Try.prog 30 #[.string s, .int .i64 c] w fun e w' => e = .returned (.bool (allCls c s.data.toList)) ∧ w = w' := by
  unfold I64 at hc
  go_enter Try.func30, Try.ntmps30
  go_wp2
  go_loop [5] (fun i => ∃ k : Nat, k ≤ s.size ∧ i = .int .i64 k ∧ allCls c (s.data.toList.take k) = true) (fun i => s.size - (intOf i).toNat)
  case atStart => exact ⟨0, by omega, rfl, by simp [allCls]⟩
  case round =>
    obtain ⟨k, hk, rfl, hn⟩ := hrel
    have HN := hid hn
    clear hn
    by_cases hlt : k < s.size
    · have H := rclass_any (s[k].toNat) w (byte_lo _) (byte_hi _)
      have HS := hid (take_snoc s k hlt)
      cases h5 : (clsOf s[k].toNat != c)
      · have HK : Hid (clsOf s[k].toNat = c) := by show _ = _; simpa using h5
        go_wp2_with (go_at_call 24; (with_reducible refine H.mono ?_); rintro e w' ⟨rfl, rfl⟩)
        go_round
        case rel => exact ⟨k + 1, by omega, by go_num, by rw [HS.out, allCls, List.all_append]; have := HN.out; rw [allCls] at this; rw [this]; simp [HK.out]⟩
        case measure => simp [intOf]; omega
      · have HR : Hid (false = allCls c s.data.toList) := by
          show _ = _
          symm
          rw [← Bool.not_eq_true, allCls, List.all_eq_true]
          intro ha
          have := ha _ (get_mem s k hlt)
          simp at h5 this
          exact h5 this
        go_wp2_with (go_at_call 24; (with_reducible refine H.mono ?_); rintro e w' ⟨rfl, rfl⟩)
        go_ret
        exact ⟨ret_bool HR.out, rfl⟩
    · go_wp2
      go_ret
      refine ⟨ret_bool ?_, rfl⟩
      have h2 := HN.out
      rw [take_all s k (by omega)] at h2
      exact h2.symm

/-- the last k up to n of which P holds; 0: there is none -/
def lastK (P : Nat → Bool) : Nat → Nat
  | 0 => 0
  | n + 1 => if P (n + 1) then n + 1 else lastK P n
theorem lastK_le (P : Nat → Bool) (n : Nat) : lastK P n ≤ n := by
  induction n with
  | zero => simp [lastK]
  | succ n ih => simp only [lastK]; split <;> omega
theorem ext_list (s : ByteArray) (a b : Nat) : (s.extract a b).data.toList = (s.data.toList.drop a).take (b - a) := by
  simp [ByteArray.data_extract, Array.toList_extract, List.extract_eq_take_drop]
theorem ext_size (s : ByteArray) (a b : Nat) (hb : b ≤ s.size) : (s.extract a b).size = b - a := by
  rw [ByteArray.size_extract]; omega

set_option maxHeartbeats 800000 in
theorem rname_any (s : ByteArray) (n : Nat) (w : World) (hs : s.size ≤ 1000000000) (hn : n ≤ s.size) :
    Calls Try.prog 14 #[.string s, .int .i64 n] w fun e w' => e = .returned (.int .i64 (lastK (fun k => isNameL ((s.data.toList.drop n).take k)) (s.size - n))) ∧ w = w' := by
  have hsub : (s.size : Int) - n = ((s.size - n : Nat) : Int) := by omega
  go_enter Try.func14, Try.ntmps14
  go_wp2
  go_loop [5, 6] (fun m i => ∃ k : Nat, k ≤ s.size - n ∧ i = .int .i64 ((k : Int) + 1) ∧ m = .int .i64 (lastK (fun k => isNameL ((s.data.toList.drop n).take k)) k)) (fun _ i => s.size + 1 - (intOf i).toNat)
  case atStart => exact ⟨0, by omega, rfl, rfl⟩
  case round =>
    obtain ⟨k, hk, rfl, rfl⟩ := hrel
    by_cases hlt : k < s.size - n
    · have hz := ext_size s n (n + (k + 1)) (by omega)
      have H := risName_any (s.extract n (n + (k + 1))) w (by omega)
      rw [ext_list, show n + (k + 1) - n = k + 1 by omega] at H
      clear hz
      cases hb : isNameL ((s.data.toList.drop n).take (k + 1))
      all_goals
        rw [hb] at H
        have HB := hid hb
        clear hb
        go_wp2_with (go_at_call 20; (with_reducible refine H.mono ?_); rintro e w' ⟨rfl, rfl⟩)
        go_round
        case rel => exact ⟨k + 1, by omega, by go_num, by simp [lastK, HB.out]⟩
        case measure => simp [intOf]; omega
    · go_wp2
      go_ret
      refine ⟨ret_int ?_, rfl⟩
      rw [show k = s.size - n by omega]
end Go.Proofs.Ytffajemlbkpmeaa
