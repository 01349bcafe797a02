/-
  Contracts of class.span and of what measures by it.
-/
import Derived.Test.YtkbdgokmcdopgaaCa
namespace Go.Proofs.Ytkbdgokmcdopgaa
open Go.RowKit
set_option linter.unusedVariables false
set_option linter.unusedSimpArgs false

def spanL (p : Int → Bool) (l : List UInt8) : Nat := (l.takeWhile fun c => p c.toNat).length

def spanS (p : Int → Bool) (l : List UInt8) (a : Int) : Int := if a < 0 ∨ (l.length : Int) ≤ a then 0 else spanL p (l.drop a.toNat)

theorem spanL_nil {p : Int → Bool} : spanL p [] = 0 := rfl

theorem spanL_yes {p : Int → Bool} {c : UInt8} {l : List UInt8} (h : p c.toNat = true) : spanL p (c :: l) = spanL p l + 1 := by simp [spanL, List.takeWhile_cons, h]

theorem spanL_no {p : Int → Bool} {c : UInt8} {l : List UInt8} (h : p c.toNat = false) : spanL p (c :: l) = 0 := by simp [spanL, List.takeWhile_cons, h]

theorem spanL_le (p : Int → Bool) (l : List UInt8) : spanL p l ≤ l.length := by
  simpa [spanL] using (List.takeWhile_sublist (fun c : UInt8 => p c.toNat) (l := l)).length_le

theorem spanS_in {p : Int → Bool} {s : ByteArray} {n : Nat} (h : n < s.size) : spanS p s.data.toList n = spanL p (s.data.toList.drop n) := by
  have : s.data.toList.length = s.size := by simp
  rw [spanS, if_neg (by omega)]; simp

theorem drop_cons (s : ByteArray) (k : Nat) (h : k < s.size) : s.data.toList.drop k = s[k] :: s.data.toList.drop (k + 1) := by
  rw [List.drop_eq_getElem_cons (by simpa using h)]; rfl

set_option maxHeartbeats 400000 in
theorem span_any (s : ByteArray) (a : Int) (K : Nat) (caps : Array Value) (p : Int → Bool) (w : World) (hs : s.size ≤ 1000000000) (ha : -9223372036854775808 ≤ a ∧ a ≤ 9223372036854775807)
    (hc : ∀ (xs : Array Value) (w : World), Sem.run Try.prog (callFunc K xs) w = .ok (.enter K xs) w)
    (hf : ∀ b : Int, 0 ≤ b → b ≤ 255 → Calls Try.prog K (#[.int .u8 b] ++ caps) w fun e w' => e = .returned (.bool (p b)) ∧ w = w') :
    Calls Try.prog 25 #[.string s, .int .i64 a, .func (.func K) #[] caps] w fun e w' => e = .returned (.int .i64 (spanS p s.data.toList a)) ∧ w = w' := by
  by_cases hneg : a < 0
  · go_enter Try.func25, Try.ntmps25
    go_wp2
    go_step3
    go_wp2
    rw [Exit.noGoto_ret]
    go_ret
    exact ⟨ret_int (by simp [spanS, hneg]), rfl⟩
  · by_cases hbig : (s.size : Int) ≤ a
    · go_enter Try.func25, Try.ntmps25
      go_wp2
      go_step3
      go_wp2
      rw [Exit.noGoto_ret]
      go_ret
      exact ⟨ret_int (by simp [spanS]; omega), rfl⟩
    · obtain ⟨n, rfl⟩ : ∃ n : Nat, a = n := ⟨a.toNat, by omega⟩
      have hn : n < s.size := by omega
      have e1 : decide ((n : Int) < 0) = false := by simp
      have e2 : decide (s.size ≤ n) = false := by simp; omega
      clear hneg hbig
      go_enter Try.func25, Try.ntmps25
      go_wp2
      go_step3
      go_wp2
      go_step3
      go_wp2
      go_loop [7] (fun i => ∃ k : Nat, n + k ≤ s.size ∧ i = .int .i64 k ∧ spanL p (s.data.toList.drop n) = k + spanL p (s.data.toList.drop (n + k))) (fun i => s.size - (intOf i).toNat)
      case atStart => exact ⟨0, by omega, rfl, by simp⟩
      case round =>
        obtain ⟨k, hk, rfl, hn'⟩ := hrel
        have HN := hid hn'
        clear hn'
        by_cases hlt : n + k < s.size
        · have hb := s[n + k].toNat_lt
          have h1 := hf (s[n + k].toNat) (by omega) (by omega)
          clear hf hb
          cases hp : p (s[n + k].toNat)
          · rw [hp] at h1
            go_wp2_with ((with_reducible refine h1.mono ?_); rintro e w' ⟨rfl, rfl⟩)
            rw [Exit.noGoto_ret]
            go_ret
            refine ⟨ret_int ?_, rfl⟩
            have h2 := HN.out
            rw [drop_cons s _ hlt, spanL_no hp] at h2
            rw [spanS_in (by omega), h2]; rfl
          · rw [hp] at h1
            have HB : Hid (spanL p (s.data.toList.drop n) = (k + 1 : Nat) + spanL p (s.data.toList.drop (n + (k + 1)))) := by
              have h2 := HN.out
              rw [drop_cons s _ hlt, spanL_yes hp] at h2
              show _ = _
              rw [h2, show n + (k + 1) = n + k + 1 from rfl]; omega
            clear HN hp
            go_wp2_with ((with_reducible refine h1.mono ?_); rintro e w' ⟨rfl, rfl⟩)
            go_round
            case rel => exact ⟨k + 1, by omega, by go_num, HB.out⟩
            case measure => simp [intOf]; omega
        · go_wp2
          go_ret
          refine ⟨ret_int ?_, rfl⟩
          have h2 := HN.out
          rw [List.drop_of_length_le (i := n + k) (by simp; omega), spanL_nil] at h2
          rw [spanS_in (by omega), h2]; rfl

def isLet (b : Int) : Bool := clsOf b == 5

def isDig (b : Int) : Bool := clsOf b == 6

def isBla (b : Int) : Bool := clsOf b == 1

def isNam (b : Int) : Bool := isLet b || isDig b

theorem blank_any (b : Int) (w : World) (h0 : 0 ≤ b) (h1 : b ≤ 255) :
    Calls Try.prog 26 #[.int .u8 b] w fun e w' => e = .returned (.bool (isBla b)) ∧ w = w' := by
  go_enter Try.func26, Try.ntmps26
  go_wp2_with (go_at_call 20; refine (of_any _ _ h0 h1).mono ?_; rintro e w' ⟨rfl, rfl⟩)
  go_ret
  exact ⟨rfl, rfl⟩

theorem blank_call (xs : Array Value) (w : World) : Sem.run Try.prog (callFunc 26 xs) w = .ok (.enter 26 xs) w := by kernel_rfl

/-- how long a name is at a place -/
def nameS (l : List UInt8) (a : Int) : Int := if spanS isLet l a = 0 then 0 else spanS isNam l a

def I64 (a : Int) : Prop := -9223372036854775808 ≤ a ∧ a ≤ 9223372036854775807

theorem blanks_any (s : ByteArray) (a : Int) (w : World) (hs : s.size ≤ 1000000000) (ha : I64 a) :
    Calls Try.prog 24 #[.string s, .int .i64 a] w fun e w' => e = .returned (.int .i64 (spanS isBla s.data.toList a)) ∧ w = w' := by
  have H1 := span_any s a 26 #[] isBla w hs ha blank_call (fun b h0 h1 => blank_any b w h0 h1)
  unfold I64 at ha
  go_enter Try.func24, Try.ntmps24
  go_wp2_with (go_at_call 25; (with_reducible refine H1.mono ?_); rintro e w' ⟨rfl, rfl⟩)
  go_ret
  exact ⟨rfl, rfl⟩
end Go.Proofs.Ytkbdgokmcdopgaa
