/-
  Contracts of the program's Param, IsName, Assign, Reserved and the reference's Assign, Reserved.
-/
import Derived.Test.YtffajemlbkpmeaaCd
namespace Go.Proofs.Ytffajemlbkpmeaa
open Go.RowKit
set_option linter.unusedVariables false
set_option linter.unusedSimpArgs false

def resWords : List (List UInt8) := [[33], [123], [125], [99, 97, 115, 101], [100, 111], [100, 111, 110, 101], [101, 108, 105, 102], [101, 108, 115, 101], [101, 115, 97, 99], [102, 105], [102, 111, 114], [105, 102], [105, 110], [116, 104, 101, 110], [117, 110, 116, 105, 108], [119, 104, 105, 108, 101]]
def resL (l : List UInt8) : Bool := resWords.any fun x => l == x

set_option maxHeartbeats 1000000 in
theorem reserved_any (s : ByteArray) (w : World) :
    Calls Try.prog 17 #[.string s] w fun e w' => e = .returned (.bool (resL s.data.toList)) ∧ w = w' := by
  go_enter Try.func17, Try.ntmps17
  go_wp2
  all_goals
    go_ret
    refine ⟨ret_bool ?_, rfl⟩
    rw [← ByteArray.toList_eq]
    simp only [resL, resWords, List.any_cons, List.any_nil]
    simp_all

theorem spanS_range (p : Int → Bool) (l : List UInt8) (a : Int) : 0 ≤ spanS p l a ∧ spanS p l a ≤ l.length := by
  unfold spanS
  split
  · omega
  · have := spanL_le p (l.drop a.toNat); rw [List.length_drop] at this; omega
theorem nameS_range (l : List UInt8) (a : Int) : 0 ≤ nameS l a ∧ nameS l a ≤ l.length := by
  unfold nameS
  split
  · omega
  · exact spanS_range _ _ _
theorem spanS_dig (s : ByteArray) (n : Nat) (h : n < s.size) : (if spanS isDig s.data.toList n ≤ 1 then spanS isDig s.data.toList n else 1) = if isDig s[n].toNat then (1 : Int) else 0 := by
  rw [spanS_in h, drop_cons s n h]
  cases hd : isDig s[n].toNat
  · rw [spanL_no hd]; rfl
  · rw [spanL_yes hd]; simp; omega

/-- 0 where the place is outside -/
def paramA (l : List UInt8) (a : Int) : Int := if a < 0 ∨ (l.length : Int) ≤ a then 0 else paramS l a.toNat

set_option maxHeartbeats 1000000 in
theorem param_out (s : ByteArray) (a : Int) (w : World) (hs : s.size ≤ 1000000000) (ha : I64 a) (h : a < 0 ∨ (s.size : Int) ≤ a) :
    Calls Try.prog 13 #[.string s, .int .i64 a] w fun e w' => e = .returned (.int .i64 0) ∧ w = w' := by
  have H := name_any s a w hs ha
  rw [nameS_out _ _ (by rw [size_list]; exact h)] at H
  unfold I64 at ha
  by_cases h1 : a < 0
  · clear h
    go_enter Try.func13, Try.ntmps13
    go_wp2_with (go_at_call 10; (with_reducible refine H.mono ?_); rintro e w' ⟨rfl, rfl⟩)
    go_ret
    exact ⟨rfl, rfl⟩
  · have h2 : (s.size : Int) ≤ a := by omega
    clear h
    go_enter Try.func13, Try.ntmps13
    go_wp2_with (go_at_call 10; (with_reducible refine H.mono ?_); rintro e w' ⟨rfl, rfl⟩)
    go_ret
    exact ⟨rfl, rfl⟩

set_option maxHeartbeats 1000000 in
theorem param_in (s : ByteArray) (n : Nat) (w : World) (hs : s.size ≤ 1000000000) (hn : n < s.size) :
    Calls Try.prog 13 #[.string s, .int .i64 n] w fun e w' => e = .returned (.int .i64 (paramS s.data.toList n)) ∧ w = w' := by
  have H := name_any s n w hs (by unfold I64; omega)
  have HP : Hid (paramS s.data.toList n = if nameS s.data.toList n ≠ 0 then nameS s.data.toList n else if isDig s[n].toNat || isSpec s[n].toNat then 1 else 0) := by
    show _ = _
    rw [paramS, drop_cons s n hn]; simp
  have hr := nameS_range s.data.toList n
  by_cases h0 : nameS s.data.toList n = 0
  · rw [h0] at H
    have H0 := hid h0
    clear h0 hr
    have HD := digits_any s n w hs (by unfold I64; omega)
    have hD := spanS_range isDig s.data.toList n
    have HS := hid (spanS_dig s n hn)
    go_enter Try.func13, Try.ntmps13
    go_wp2_with (first
      | (go_at_call 10; (with_reducible refine H.mono ?_); rintro e w' ⟨rfl, rfl⟩)
      | (go_at_call 11; (with_reducible refine HD.mono ?_); rintro e w' ⟨rfl, rfl⟩))
    all_goals
      go_ret
      refine ⟨ret_int ?_, rfl⟩
      have HS' := HS.out
      rw [HP.out, H0.out]
      clear HP H0 H HD HS
      cases hd : isDig s[n].toNat <;> simp_all [isSpec] <;> omega
  · have hp : 0 < nameS s.data.toList n := by omega
    have H0 := hid h0
    clear h0 hr
    go_enter Try.func13, Try.ntmps13
    go_wp2_with (go_at_call 10; (with_reducible refine H.mono ?_); rintro e w' ⟨rfl, rfl⟩)
    go_ret
    exact ⟨ret_int (by rw [HP.out, if_pos H0.out]), rfl⟩

set_option maxHeartbeats 400000 in
theorem isName_any (s : ByteArray) (w : World) (hs : s.size ≤ 1000000000) :
    Calls Try.prog 22 #[.string s] w fun e w' => e = .returned (.bool (isNameL s.data.toList)) ∧ w = w' := by
  have H := name_any s 0 w hs (by unfold I64; omega)
  by_cases h0 : s.size = 0
  · have he : (s.toList == []) = true := by rw [ByteArray.toList_eq, len0 h0]; rfl
    have he2 : (!s.toList.isEmpty) = false := by rw [ByteArray.toList_eq, len0 h0]; rfl
    have HR : Hid (false = isNameL s.data.toList) := by show _ = _; rw [len0 h0]; rfl
    clear h0
    go_enter Try.func22, Try.ntmps22
    go_wp2_with (go_at_call 10; (with_reducible refine H.mono ?_); rintro e w' ⟨rfl, rfl⟩)
    go_ret
    exact ⟨ret_bool HR.out, rfl⟩
  · have he : (s.toList == []) = false := by rw [ByteArray.toList_eq]; cases hh : s.data.toList with | nil => exact absurd (by rw [← size_list, hh]; rfl) h0 | cons => rfl
    have he2 : (!s.toList.isEmpty) = true := by rw [ByteArray.toList_eq, empty_iff]; simpa using h0
    have HR : Hid ((nameS s.data.toList 0 == s.size) = isNameL s.data.toList) := by
      show _ = _
      have hp : 0 < s.size := by omega
      have h1 := nameS_eq s.data.toList 0 (by rw [size_list]; omega)
      have h2 : nameS s.data.toList 0 = if spanL isLet s.data.toList = 0 then 0 else ((spanL isNam s.data.toList : Nat) : Int) := by
        have := lastK_name s.data.toList
        rw [show ((0 : Nat) : Int) = 0 from rfl] at h1
        rw [h1]; simp only [List.drop_zero, Nat.sub_zero]; rw [this]; split <;> rfl
      rw [h2, ← size_list]
      have h3 := all_take_iff isNam s.data.toList s.data.toList.length (Nat.le_refl _)
      rw [List.take_length] at h3
      have h4 := spanL_le isNam s.data.toList
      have h5 : s.data.toList = s[0] :: s.data.toList.drop 1 := by have := drop_cons s 0 hp; simpa using this
      have h6 : (s.data.toList.take 1).all (fun c => isLet c.toNat) = isLet s[0].toNat := by rw [take_one s hp]; simp
      have h7 : spanL isLet s.data.toList = 0 ↔ isLet s[0].toNat = false := by
        rw [h5]; cases hl : isLet s[0].toNat
        · simp [spanL_no hl]
        · simp [spanL_yes hl]
      have h8 : s.data.toList.isEmpty = false := by rw [h5]; rfl
      rw [isNameL, h8, h6]
      cases hl : isLet s[0].toNat
      · rw [if_pos (h7.2 hl)]; rw [size_list]; simp; omega
      · rw [if_neg (by rw [h7, hl]; simp), Bool.eq_iff_iff]; simp only [Bool.not_false, Bool.true_and, beq_iff_eq]; rw [h3]; omega
    clear h0
    go_enter Try.func22, Try.ntmps22
    go_wp2_with (go_at_call 10; (with_reducible refine H.mono ?_); rintro e w' ⟨rfl, rfl⟩)
    go_ret
    exact ⟨ret_bool HR.out, rfl⟩

/-- how long the name of an assignment is; 0: it is none -/
def assignS (l : List UInt8) : Nat := if nameS l 0 ≠ 0 ∧ l[(nameS l 0).toNat]? = some 61 then (nameS l 0).toNat else 0

set_option maxHeartbeats 400000 in
theorem assign_no (s : ByteArray) (w : World) (hs : s.size ≤ 1000000000) (h : assignS s.data.toList = 0) :
    Calls Try.prog 19 #[.string s] w fun e w' => e = .returned (.tuple #[.string ⟨#[]⟩, .string ⟨#[]⟩, .bool false]) ∧ w = w' := by
  have H := name_any s 0 w hs (by unfold I64; omega)
  have hr := nameS_range s.data.toList 0
  rw [size_list] at hr
  obtain ⟨n, hn⟩ : ∃ n : Nat, nameS s.data.toList 0 = n := ⟨(nameS s.data.toList 0).toNat, by omega⟩
  rw [hn] at H
  by_cases h0 : n = 0
  · subst h0
    clear hr hn h
    go_enter Try.func19, Try.ntmps19
    go_wp2_with (go_at_call 10; (with_reducible refine H.mono ?_); rintro e w' ⟨rfl, rfl⟩)
    go_ret3
    exact ⟨rfl, rfl⟩
  · have e0 : ((n : Int) == 0) = false := beqF (by omega)
    by_cases h1 : n = s.size
    · have e1 : (n == s.size) = true := by simpa using h1
      have e2 : ((n : Int) == (s.size : Int)) = true := beqT (by omega)
      clear hr hn h h1 h0
      go_enter Try.func19, Try.ntmps19
      go_wp2_with (go_at_call 10; (with_reducible refine H.mono ?_); rintro e w' ⟨rfl, rfl⟩)
      go_ret3
      exact ⟨rfl, rfl⟩
    · have hlt : n < s.size := by omega
      have e1 : (n == s.size) = false := nbeqF h1
      have e2 : ((n : Int) == (s.size : Int)) = false := beqF (by omega)
      have e3 : ((s[n].toNat : Int) != 61) = true := by
        apply bneT
        intro hh
        have h7 : s[n].toNat = 61 := by omega
        have : s[n] = 61 := UInt8.toNat_inj.1 h7
        have h9 : s.data.toList[n]? = some 61 := by
          rw [List.getElem?_eq_getElem (by simpa using hlt)]; exact congrArg some this
        rw [assignS, hn] at h
        rw [if_pos ⟨by omega, by simpa using h9⟩] at h
        simp at h; omega
      clear hr hn h h1 h0
      go_enter Try.func19, Try.ntmps19
      go_wp2_with (go_at_call 10; (with_reducible refine H.mono ?_); rintro e w' ⟨rfl, rfl⟩)
      go_ret3
      exact ⟨rfl, rfl⟩

set_option maxHeartbeats 400000 in
theorem assign_yes (s : ByteArray) (w : World) (n : Nat) (hs : s.size ≤ 1000000000) (h : assignS s.data.toList = n) (h0 : n ≠ 0) :
    Calls Try.prog 19 #[.string s] w fun e w' => e = .returned (.tuple #[.string (s.extract 0 n), .string (s.extract (n + 1) s.size), .bool true]) ∧ ∃ k, w' = w.drewN k := by
  have H := name_any s 0 w hs (by unfold I64; omega)
  have hh : nameS s.data.toList 0 = n ∧ s.data.toList[n]? = some 61 := by
    unfold assignS at h
    split at h
    · rename_i hc
      have := nameS_range s.data.toList 0
      have e : nameS s.data.toList 0 = n := by omega
      refine ⟨e, ?_⟩
      have := hc.2
      rw [e] at this
      simpa using this
    · omega
  obtain ⟨hn, h61⟩ := hh
  rw [hn] at H
  obtain ⟨hlt0, h62⟩ := List.getElem?_eq_some_iff.1 h61
  have hlt : n < s.size := by simpa using hlt0
  have e0 : ((n : Int) == 0) = false := beqF (by omega)
  have e1 : (n == s.size) = false := nbeqF (by omega)
  have e2 : ((n : Int) == (s.size : Int)) = false := beqF (by omega)
  have e3 : ((s[n].toNat : Int) != 61) = false := by
    have : s[n] = 61 := h62
    rw [this]; rfl
  clear hn h h0 h61 h62 hlt0
  go_enter Try.func19, Try.ntmps19
  go_wp2_with (go_at_call 10; (with_reducible refine H.mono ?_); rintro e w' ⟨rfl, rfl⟩)
  go_quiet (fail)
  go_wp2
  go_ret3
  exact ⟨rfl, _, rfl⟩
end Go.Proofs.Ytffajemlbkpmeaa
