/-
  Contracts of Row, Param, Assign, Reserved: the program's and the reference's; and the plain laws that they agree.
-/
import Derived.Test.YtffajemlbkpmeaaCc
namespace Go.Proofs.Ytffajemlbkpmeaa
open Go.RowKit
set_option linter.unusedVariables false
set_option linter.unusedSimpArgs false

theorem lastK_eq {P : Nat → Bool} {n m : Nat} (hm : m ≤ n) (h1 : 0 < m → P m = true) (h2 : ∀ k, m < k → k ≤ n → P k = false) : lastK P n = m := by
  induction n with
  | zero => simp [lastK]; omega
  | succ n ih =>
    simp only [lastK]
    rcases Nat.lt_or_ge m (n + 1) with hlt | hge
    · rw [h2 (n + 1) hlt (by omega)]
      exact ih (by omega) fun k a b => h2 k a (by omega)
    · have : m = n + 1 := by omega
      subst this
      rw [h1 (by omega)]; rfl

theorem spanL_le (p : Int → Bool) (l : List UInt8) : spanL p l ≤ l.length := by
  simpa [spanL] using (List.takeWhile_sublist (fun c : UInt8 => p c.toNat) (l := l)).length_le
theorem all_take_iff (p : Int → Bool) : ∀ (l : List UInt8) (k : Nat), k ≤ l.length → ((l.take k).all (fun c => p c.toNat) = true ↔ k ≤ spanL p l)
  | [], k, h => by simp at h; simp [h, spanL]
  | c :: l, 0, h => by simp
  | c :: l, k + 1, h => by
    have ih := all_take_iff p l k (by simpa using h)
    cases hc : p c.toNat
    · rw [spanL_no hc]; simp [hc]
    · rw [spanL_yes hc, List.take_succ_cons, List.all_cons, hc, Bool.true_and, ih]; omega

theorem all_take_false (p : Int → Bool) (l : List UInt8) (k : Nat) (h : k ≤ l.length) (hk : spanL p l < k) : (l.take k).all (fun c => p c.toNat) = false := by
  rw [← Bool.not_eq_true, all_take_iff p l k h]; omega

theorem lastK_span (p : Int → Bool) (l : List UInt8) : lastK (fun k => (l.take k).all fun c => p c.toNat) l.length = spanL p l :=
  lastK_eq (spanL_le p l) (fun _ => (all_take_iff p l _ (spanL_le p l)).2 (Nat.le_refl _)) fun k h1 h2 => all_take_false p l k h2 h1

theorem isNam_of_isLet {b : Int} (h : isLet b = true) : isNam b = true := by simp [isNam, h]
theorem isNameL_take (c : UInt8) (l : List UInt8) (k : Nat) (h0 : 0 < k) : isNameL ((c :: l).take k) = (isLet c.toNat && ((c :: l).take k).all fun c => isNam c.toNat) := by
  obtain ⟨j, rfl⟩ : ∃ j, k = j + 1 := ⟨k - 1, by omega⟩
  simp [isNameL]
theorem lastK_name (l : List UInt8) : lastK (fun k => isNameL (l.take k)) l.length = if spanL isLet l = 0 then 0 else spanL isNam l := by
  cases l with
  | nil => rfl
  | cons c l =>
    cases hc : isLet c.toNat
    · rw [spanL_no hc, if_pos rfl]
      exact lastK_eq (Nat.zero_le _) (fun h => absurd h (by omega)) fun k h1 h2 => by rw [isNameL_take c l k h1, hc]; rfl
    · rw [spanL_yes hc, if_neg (by omega)]
      refine lastK_eq (spanL_le _ _) (fun h => ?_) fun k h1 h2 => ?_
      · rw [isNameL_take c l _ h, hc, Bool.true_and]; exact (all_take_iff isNam _ _ (spanL_le _ _)).2 (Nat.le_refl _)
      · rw [isNameL_take c l k (by omega), hc, Bool.true_and]; exact all_take_false isNam _ k h2 h1

theorem nameS_eq (l : List UInt8) (n : Nat) (h : n < l.length) : nameS l n = lastK (fun k => isNameL ((l.drop n).take k)) (l.length - n) := by
  have := lastK_name (l.drop n)
  rw [List.length_drop] at this
  have hc : ¬ ((n : Int) < 0 ∨ (l.length : Int) ≤ n) := by omega
  rw [this, nameS, spanS, spanS, if_neg hc, if_neg hc]
  simp only [Int.toNat_natCast]
  by_cases hz : spanL isLet (l.drop n) = 0 <;> simp [hz]
theorem nameS_out (l : List UInt8) (a : Int) (h : a < 0 ∨ (l.length : Int) ≤ a) : nameS l a = 0 := by simp [nameS, spanS, h]

def rowR (c : Int) (l : List UInt8) : Nat := lastK (fun k => allCls c (l.take k)) l.length
theorem rowR_eq (c : Int) (l : List UInt8) : rowR c l = spanL (fun b => clsOf b == c) l := lastK_span (fun b => clsOf b == c) l

set_option maxHeartbeats 800000 in
theorem rrow_any (s : ByteArray) (n : Nat) (c : Int) (w : World) (hs : s.size ≤ 1000000000) (hn : n ≤ s.size) (hc : I64 c) :
    Calls Try.prog 15 #[.string s, .int .i64 n, .int .i64 c] w fun e w' => e = .returned (.int .i64 (lastK (fun k => allCls c ((s.data.toList.drop n).take k)) (s.size - n))) ∧ w = w' := by
  have hsub : (s.size : Int) - n = ((s.size - n : Nat) : Int) := by omega
  have hc2 := hc
  unfold I64 at hc
  go_enter Try.func15, Try.ntmps15
  go_wp2
  go_loop [7, 8] (fun m i => ∃ k : Nat, k ≤ s.size - n ∧ i = .int .i64 ((k : Int) + 1) ∧ m = .int .i64 (lastK (fun k => allCls c ((s.data.toList.drop n).take k)) k)) (fun _ i => s.size + 1 - (intOf i).toNat)
  case atStart => exact ⟨0, by omega, rfl, rfl⟩
  case round =>
    obtain ⟨k, hk, rfl, rfl⟩ := hrel
    by_cases hlt : k < s.size - n
    · have hz := ext_size s n (n + (k + 1)) (by omega)
      have H := rall_any (s.extract n (n + (k + 1))) c w (by omega) hc2
      rw [ext_list, show n + (k + 1) - n = k + 1 by omega] at H
      clear hz
      cases hb : allCls c ((s.data.toList.drop n).take (k + 1))
      all_goals
        rw [hb] at H
        have HB := hid hb
        clear hb
        go_wp2_with (go_at_call 30; (with_reducible refine H.mono ?_); rintro e w' ⟨rfl, rfl⟩)
        go_round
        case rel => exact ⟨k + 1, by omega, by go_num, by simp [lastK, HB.out]⟩
        case measure => simp [intOf]; omega
    · go_wp2
      go_ret
      refine ⟨ret_int ?_, rfl⟩
      rw [show k = s.size - n by omega]

def isSpec (b : Int) : Bool := b == 64 || b == 42 || b == 35 || b == 63 || b == 45 || b == 36 || b == 33
theorem isSpec_in (b : Int) : inS b [64, 42, 35, 63, 45, 36, 33] = isSpec b := by
  rw [Bool.eq_iff_iff]; simp [inS, isSpec]
  omega
def paramS (l : List UInt8) (n : Nat) : Int :=
  if nameS l n ≠ 0 then nameS l n else if (l.drop n).take 1 |>.any (fun c => isDig c.toNat || isSpec c.toNat) then 1 else 0

set_option maxHeartbeats 800000 in
theorem rparam_any (s : ByteArray) (n : Nat) (w : World) (hs : s.size ≤ 1000000000) (hn : n < s.size) :
    Calls Try.prog 16 #[.string s, .int .i64 n] w fun e w' => e = .returned (.int .i64 (paramS s.data.toList n)) ∧ w = w' := by
  have H := rname_any s n w hs (by omega)
  rw [← size_list s, ← nameS_eq _ _ (by rw [size_list]; exact hn)] at H
  have HP : Hid (paramS s.data.toList n = if nameS s.data.toList n ≠ 0 then nameS s.data.toList n else if isDig s[n].toNat || isSpec s[n].toNat then 1 else 0) := by
    show _ = _
    rw [paramS, drop_cons s n hn]; simp
  have HC := rclass_any (s[n].toNat) w (byte_lo _) (byte_hi _)
  by_cases h0 : nameS s.data.toList n = 0
  · rw [h0] at H
    have H0 := hid h0
    clear h0
    by_cases h6 : clsOf s[n].toNat = 6
    · rw [h6] at HC
      have H6 := hid h6
      clear h6
      go_enter Try.func16, Try.ntmps16
      go_wp2_with (first
        | (go_at_call 14; (with_reducible refine H.mono ?_); rintro e w' ⟨rfl, rfl⟩)
        | (go_at_call 24; (with_reducible refine HC.mono ?_); rintro e w' ⟨rfl, rfl⟩))
      go_ret
      exact ⟨ret_int (by rw [HP.out, H0.out]; simp [isDig, H6.out]), rfl⟩
    · have e6 : (clsOf s[n].toNat == 6) = false := beqF h6
      have H6 : Hid (isDig s[n].toNat = false) := e6
      clear h6
      have HI := in_any s[n].toNat ⟨#[64, 42, 35, 63, 45, 36, 33]⟩ w (by decide)
      cases hi : isSpec s[n].toNat
      all_goals
        have HI2 := hid hi
        rw [← isSpec_in] at hi
        rw [hi] at HI
        clear hi
        go_enter Try.func16, Try.ntmps16
        go_wp2_with (first
          | (go_at_call 14; (with_reducible refine H.mono ?_); rintro e w' ⟨rfl, rfl⟩)
          | (go_at_call 24; (with_reducible refine HC.mono ?_); rintro e w' ⟨rfl, rfl⟩)
          | (go_at_call 36; (with_reducible refine HI.mono ?_); rintro e w' ⟨rfl, rfl⟩))
        go_ret
        exact ⟨ret_int (by rw [HP.out, H0.out]; simp [H6.out, HI2.out]), rfl⟩
  · have e0 : (nameS s.data.toList n == 0) = false := beqF h0
    have H0 := hid h0
    clear h0
    go_enter Try.func16, Try.ntmps16
    go_wp2_with (go_at_call 14; (with_reducible refine H.mono ?_); rintro e w' ⟨rfl, rfl⟩)
    go_ret
    exact ⟨ret_int (by rw [HP.out, if_pos H0.out]), rfl⟩
end Go.Proofs.Ytffajemlbkpmeaa
