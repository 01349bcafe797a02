/-
  Contracts of the reference's Text and At, and the plain law that the program's At is the reference's.
-/
import Derived.Test.YtkbdgokmcdopgaaOb
namespace Go.Proofs.Ytkbdgokmcdopgaa
open Go.RowKit
set_option linter.unusedVariables false
set_option linter.unusedSimpArgs false

theorem redirects_any (op : Int) (w : World) (ha : I64 op) :
    Calls Try.prog 14 #[.int .i64 op] w fun e w' => e = .returned (.bool (decide (4 ≤ op) && decide (op ≤ 12))) ∧ w = w' := by
  unfold I64 at ha
  go_enter Try.func14, Try.ntmps14
  go_wp2
  all_goals
    go_ret
    refine ⟨ret_bool ?_, rfl⟩
    rw [Bool.eq_iff_iff]
    simp_all
    try omega

theorem operEnds_any (op : Int) (w : World) (ha : I64 op) :
    Calls Try.prog 15 #[.int .i64 op] w fun e w' => e = .returned (.bool (op == 14 || op == 13)) ∧ w = w' := by
  unfold I64 at ha
  go_enter Try.func15, Try.ntmps15
  go_wp2
  all_goals
    go_ret
    refine ⟨ret_bool ?_, rfl⟩
    first | rfl | simp_all

/-- without the blanks at its end -/
def trimR (l : List UInt8) : List UInt8 := (l.reverse.dropWhile fun c => c == 32).reverse

theorem trimR_nil : trimR [] = [] := rfl

theorem trimR_blank (l : List UInt8) : trimR (l ++ [32]) = trimR l := by simp [trimR]

theorem trimR_other (l : List UInt8) (c : UInt8) (h : c ≠ 32) : trimR (l ++ [c]) = l ++ [c] := by simp [trimR, h]

theorem take_last (s : ByteArray) (h : 0 < s.size) : s.data.toList = s.data.toList.take (s.size - 1) ++ [s[s.size - 1]] := by
  have := take_snoc s (s.size - 1) (by omega)
  rw [show s.size - 1 + 1 = s.size by omega, take_all s _ (Nat.le_refl _)] at this
  exact this

theorem byte_ne {c d : UInt8} (h : c ≠ d) : (c.toNat : Int) ≠ d.toNat := fun e => h (UInt8.toNat_inj.1 (by omega))

set_option maxHeartbeats 4000000 in
theorem rtext_any (op : Int) (w : World) (ha : I64 op) :
    Calls Try.prog 11 #[.int .i64 op] w fun e w' => e = .returned (.string (opStr op)) ∧ w = w' := by
  unfold I64 at ha
  obtain ⟨L, hL⟩ : ∃ L, L = opStr op := ⟨_, rfl⟩
  rw [← hL]
  revert ha hL
  refine opText_cases (P := fun op => (-9223372036854775808 ≤ op ∧ op ≤ 9223372036854775807) → L = opStr op → Calls Try.prog 11 #[.int .i64 op] w fun e w' => e = .returned (.string L) ∧ w = w') op ?_ ?_ ?_ ?_ ?_ ?_ ?_ ?_ ?_ ?_ ?_ ?_ ?_ ?_ ?_ ?_ ?_ fun h => ?_
  case refine_18 =>
    intro ha hL
    have HO : Hid (L = ⟨#[]⟩) := by show _ = _; rw [hL, opStr, opText_out h]
    clear hL
    by_cases h1 : op < 1
    all_goals
      have h2 : op < 1 ∨ 17 < op := by omega
      clear h
      go_enter Try.func11, Try.ntmps11
      go_wp2
      go_ret
      exact ⟨ret_str HO.out.symm, rfl⟩
  all_goals
    intro _ hL
    have HS := hid hL
    clear hL
    go_enter Try.func11, Try.ntmps11
    go_wp2
    go_loop [3] (fun v => ∃ T : ByteArray, T.size ≤ 3 ∧ v = .string T ∧ trimR T.data.toList = L.data.toList) (fun v => match v with | .string T => T.size | _ => 0)
    case atStart => exact ⟨_, by decide +kernel, rfl, by rw [HS.out]; decide +kernel⟩
    case round =>
      obtain ⟨T, hT, rfl, hn⟩ := hrel
      have HN := hid hn
      clear hn
      by_cases h0 : 0 < T.size
      · have HL := hid (take_last T h0)
        by_cases h1 : T[T.size - 1] = 32
        · have e1 : ((T[T.size - 1].toNat : Int) == 32) = true := by rw [h1]; rfl
          have H1 := hid h1
          clear h1
          have hz := ext_size T 0 (T.size - 1) (by omega)
          have hz1 : (T.extract 0 (T.size - 1)).size < T.size := by omega
          clear hz
          go_wp2
          go_round
          case rel =>
            refine ⟨_, by omega, rfl, ?_⟩
            rw [← HN.out, HL.out, H1.out, trimR_blank, ext_list]
            simp
          case measure => exact hz1
        · have e1 : ((T[T.size - 1].toNat : Int) == 32) = false := beqF (byte_ne h1)
          have H1 := hid h1
          clear h1
          go_wp2
          go_ret
          refine ⟨ret_str (ba_ext ?_), rfl⟩
          rw [← HN.out, HL.out, trimR_other _ _ H1.out]
      · go_wp2
        go_ret
        refine ⟨ret_str (ba_ext ?_), rfl⟩
        have : T.data.toList = [] := List.length_eq_zero_iff.1 (by rw [size_list]; omega)
        rw [← HN.out, this]; rfl
end Go.Proofs.Ytkbdgokmcdopgaa
