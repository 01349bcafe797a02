/-
  Contracts of the reference's Assign and Reserved, and the plain laws on them.
-/
import Derived.Test.YtffajemlbkpmeaaCe
namespace Go.Proofs.Ytffajemlbkpmeaa
open Go.RowKit
set_option linter.unusedVariables false
set_option linter.unusedSimpArgs false

def goodA (l : List UInt8) (k : Nat) : Bool := l[k]? == some 61 && isNameL (l.take k)

theorem isNameL_iff (l : List UInt8) : isNameL l = true ↔ spanL isLet l ≠ 0 ∧ spanL isNam l = l.length := by
  cases l with
  | nil => simp [isNameL, spanL]
  | cons c l =>
    have h3 := all_take_iff isNam (c :: l) (c :: l).length (Nat.le_refl _)
    rw [List.take_length] at h3
    have h4 := spanL_le isNam (c :: l)
    cases hc : isLet c.toNat
    · simp [isNameL, hc, spanL_no hc]
    · simp only [isNameL, List.isEmpty_cons, Bool.not_false, Bool.true_and, Bool.and_eq_true, h3, spanL_yes hc]
      have h4' : spanL isNam (c :: l) ≤ l.length + 1 := h4
      simp [hc]; omega

theorem spanL_take (p : Int → Bool) : ∀ (l : List UInt8) (k : Nat), spanL p (l.take k) = min k (spanL p l)
  | [], k => by simp [spanL]
  | c :: l, 0 => by simp [spanL]
  | c :: l, k + 1 => by
    rw [List.take_succ_cons]
    cases hc : p c.toNat
    · rw [spanL_no hc, spanL_no hc]; omega
    · rw [spanL_yes hc, spanL_yes hc, spanL_take p l k]; omega
theorem spanL_at (p : Int → Bool) : ∀ (l : List UInt8) (k : Nat) (c : UInt8), l[k]? = some c → p c.toNat = false → spanL p l ≤ k
  | [], k, c, h, _ => by simp at h
  | d :: l, 0, c, h, hp => by
    simp at h; subst h; rw [spanL_no hp]; exact Nat.le_refl _
  | d :: l, k + 1, c, h, hp => by
    simp at h
    cases hd : p d.toNat
    · rw [spanL_no hd]; omega
    · rw [spanL_yes hd]; have := spanL_at p l k c h hp; omega

theorem nameS_zero (l : List UInt8) : nameS l 0 = if spanL isLet l = 0 then 0 else (spanL isNam l : Int) := by
  unfold nameS spanS
  cases l with
  | nil => simp [spanL]
  | cons c l =>
    have hc : ¬ ((0 : Int) < 0 ∨ ((c :: l).length : Int) ≤ 0) := by simp only [List.length_cons]; omega
    rw [if_neg hc, if_neg hc]
    simp only [Int.toNat_zero, List.drop_zero]
    by_cases hz : spanL isLet (c :: l) = 0 <;> simp [hz]

theorem goodA_iff (l : List UInt8) (k : Nat) (h0 : k ≠ 0) : goodA l k = true ↔ assignS l = k := by
  have hn := nameS_zero l
  have hle := spanL_le isNam l
  simp only [goodA, Bool.and_eq_true, beq_iff_eq, isNameL_iff, spanL_take]
  constructor
  · rintro ⟨h1, h2, h3⟩
    have hk := (List.getElem?_eq_some_iff.1 h1).1
    have h4 := spanL_at isNam l k 61 h1 (by decide)
    rw [List.length_take] at h3
    have h5 : spanL isNam l = k := by omega
    rw [if_neg (by omega), h5] at hn
    rw [assignS, hn, if_pos ⟨by omega, by simpa using h1⟩]; rfl
  · intro h
    unfold assignS at h
    split at h
    · rename_i hc
      obtain ⟨a, b⟩ := hc
      rw [h] at b
      rw [hn] at h a
      split at h
      · exact absurd h.symm (by simpa using h0)
      · rename_i hz
        have h5 : spanL isNam l = k := by simpa using h
        refine ⟨b, by omega, ?_⟩
        rw [List.length_take, h5]; omega
    · exact absurd h.symm h0

theorem assignS_lt (l : List UInt8) (h : assignS l ≠ 0) : assignS l < l.length := by
  have := (goodA_iff l _ h).2 rfl
  simp only [goodA, Bool.and_eq_true, beq_iff_eq] at this
  exact (List.getElem?_eq_some_iff.1 this.1).1

theorem get_some (s : ByteArray) (k : Nat) (h : k < s.size) : s.data.toList[k]? = some s[k] := by
  rw [List.getElem?_eq_getElem (by simpa using h)]; rfl
theorem ext_zero (s : ByteArray) (k : Nat) : (s.extract 0 k).data.toList = s.data.toList.take k := by rw [ext_list]; simp

set_option maxHeartbeats 800000 in
theorem rassign_any (s : ByteArray) (w : World) (hs : s.size ≤ 1000000000) :
    Calls Try.prog 21 #[.string s] w fun e w' => e = .returned (.int .i64 (assignS s.data.toList)) ∧ w = w' := by
  go_enter Try.func21, Try.ntmps21
  go_wp2
  go_loop [3] (fun i => ∃ k : Nat, 1 ≤ k ∧ k ≤ s.size + 1 ∧ i = .int .i64 k ∧ ∀ j, j ≠ 0 → j < k → goodA s.data.toList j = false) (fun i => s.size + 2 - (intOf i).toNat)
  case atStart => exact ⟨1, by omega, by omega, rfl, fun j _ _ => by omega⟩
  case round =>
    obtain ⟨k, hk1, hk, rfl, hn⟩ := hrel
    have HN := hid hn
    clear hn
    by_cases hlt : k < s.size
    · have hz := ext_size s 0 k (by omega)
      have H := risName_any (s.extract 0 k) w (by omega)
      rw [ext_zero] at H
      clear hz
      have HG : Hid (goodA s.data.toList k = (s[k] == 61 && isNameL (s.data.toList.take k))) := by
        show _ = _
        rw [goodA, get_some s k hlt]; rfl
      have hnext : goodA s.data.toList k = false → ∀ j, j ≠ 0 → j < k + 1 → goodA s.data.toList j = false := by
        intro hg j h0 hj
        by_cases e : j = k
        · subst e; exact hg
        · exact HN.out j h0 (by omega)
      have HX := hid hnext
      clear hnext HN
      cases h61 : (s[k] == 61)
      · have e61 : ((s[k].toNat : Int) == 61) = false := by
          apply beqF; intro hh
          have h7 : s[k].toNat = 61 := by omega
          have : s[k] = 61 := UInt8.toNat_inj.1 h7
          rw [this] at h61; simp at h61
        have H61 := hid h61
        clear h61
        go_wp2_with (go_at_call 20; (with_reducible refine H.mono ?_); rintro e w' ⟨rfl, rfl⟩)
        go_round
        case rel => exact ⟨k + 1, by omega, by omega, by go_num, HX.out (by rw [HG.out, H61.out]; rfl)⟩
        case measure => simp [intOf]; omega
      · have e61 : ((s[k].toNat : Int) == 61) = true := by
          apply beqT
          have : s[k] = 61 := by simpa using h61
          rw [this]; rfl
        have H61 := hid h61
        clear h61
        cases hb : isNameL (s.data.toList.take k)
        · rw [hb] at H
          have HB := hid hb
          clear hb
          go_wp2_with (go_at_call 20; (with_reducible refine H.mono ?_); rintro e w' ⟨rfl, rfl⟩)
          go_round
          case rel => exact ⟨k + 1, by omega, by omega, by go_num, HX.out (by rw [HG.out, H61.out, HB.out]; rfl)⟩
          case measure => simp [intOf]; omega
        · rw [hb] at H
          have HR : Hid (k = assignS s.data.toList) := ((goodA_iff s.data.toList k (by omega)).1 (by rw [HG.out, H61.out, hb]; rfl)).symm
          clear hb
          go_wp2_with (go_at_call 20; (with_reducible refine H.mono ?_); rintro e w' ⟨rfl, rfl⟩)
          go_ret
          exact ⟨ret_int (by rw [← HR.out]), rfl⟩
    · go_wp2
      go_ret
      refine ⟨ret_int ?_, rfl⟩
      rcases Nat.eq_zero_or_pos (assignS s.data.toList) with h | h
      · rw [h]; rfl
      · have h1 := assignS_lt s.data.toList (by omega)
        rw [size_list] at h1
        have h2 := HN.out _ (by omega) (show assignS s.data.toList < k by omega)
        rw [(goodA_iff s.data.toList _ (by omega)).2 rfl] at h2
        cases h2

def wordsB : List UInt8 := [32, 33, 32, 123, 32, 125, 32, 99, 97, 115, 101, 32, 100, 111, 32, 100, 111, 110, 101, 32, 101, 108, 105, 102, 32, 101, 108, 115, 101, 32, 101, 115, 97, 99, 32, 102, 105, 32, 102, 111, 114, 32, 105, 102, 32, 105, 110, 32, 116, 104, 101, 110, 32, 117, 110, 116, 105, 108, 32, 119, 104, 105, 108, 101, 32]
def hitW (l : List UInt8) (i : Nat) : Bool := (wordsB.drop i).take (l.length + 2) == 32 :: (l ++ [32])
theorem hitW_res_aux : ∀ n, n < 64 → ∀ i, i < 65 → (!(decide (n + i + 2 ≤ 65) && (wordsB.drop i).take 1 == [32] && ((wordsB.drop (i + 1)).take n).all (fun c => c != 32) && decide (0 < n) && (wordsB.drop (i + 1 + n)).take 1 == [32]) || resL ((wordsB.drop (i + 1)).take n)) = true := by
  decide +kernel
theorem resL_hit_aux : ∀ x ∈ resWords, x ≠ [] ∧ inS 32 x = false ∧ ∃ i, i < 66 ∧ i + (x.length + 2) ≤ 65 ∧ hitW x i = true := by
  decide +kernel
theorem resL_hit (l : List UInt8) (h : resL l = true) : l ≠ [] ∧ inS 32 l = false ∧ ∃ i, i + (l.length + 2) ≤ 65 ∧ hitW l i = true := by
  obtain ⟨x, hx, he⟩ := List.any_eq_true.1 h
  have : l = x := by simpa using he
  subst this
  obtain ⟨h1, h2, i, _, h3, h4⟩ := resL_hit_aux l hx
  exact ⟨h1, h2, i, h3, h4⟩
theorem hit_resL (l : List UInt8) (i : Nat) (h1 : l ≠ []) (h2 : inS 32 l = false) (h3 : i + (l.length + 2) ≤ 65) (h4 : hitW l i = true) : resL l = true := by
  have h5 : (wordsB.drop i).take (l.length + 2) = 32 :: (l ++ [32]) := by simpa [hitW] using h4
  have hl : wordsB.length = 65 := rfl
  have a1 : (wordsB.drop i).take 1 = [32] := by
    have := congrArg (List.take 1) h5
    rw [List.take_take] at this
    simpa [show min 1 (l.length + 2) = 1 by omega] using this
  have a2 : (wordsB.drop (i + 1)).take l.length = l := by
    have := congrArg (fun z => (z.drop 1).take l.length) h5
    simp only [List.drop_take, List.drop_drop, List.take_take] at this
    simpa [show min l.length (l.length + 2 - 1) = l.length by omega] using this
  have a3 : (wordsB.drop (i + 1 + l.length)).take 1 = [32] := by
    have := congrArg (fun z => (z.drop (1 + l.length))) h5
    simp only [List.drop_take, List.drop_drop] at this
    rw [show l.length + 2 - (1 + l.length) = 1 by omega, show i + (1 + l.length) = i + 1 + l.length by omega] at this
    rw [this, show 1 + l.length = l.length + 1 by omega]
    simp
  have a4 : l.all (fun c => c != 32) = true := by
    rw [List.all_eq_true]
    intro c hc
    have : ¬ ((c.toNat : Int) == 32) = true := by
      intro hh
      have : inS 32 l = true := List.any_eq_true.2 ⟨c, hc, hh⟩
      rw [h2] at this; cases this
    simp at this ⊢
    intro hh
    subst hh
    exact this rfl
  have hp : 0 < l.length := List.length_pos_iff.2 h1
  have := hitW_res_aux l.length (by omega) i (by omega)
  rw [a1, a2, a3, a4] at this
  simpa [show l.length + i + 2 ≤ 65 by omega, hp] using this

set_option maxHeartbeats 800000 in
theorem rreserved_any (s : ByteArray) (w : World) (hs : s.size ≤ 1000000000) :
    Calls Try.prog 18 #[.string s] w fun e w' => e = .returned (.bool (resL s.data.toList)) ∧ w = w' := by
  have H := in_any 32 s w (by omega)
  by_cases h0 : s.size = 0
  · have he : ((s.size : Int) == 0) = true := beqT (by omega)
    have HR : Hid (false = resL s.data.toList) := by show _ = _; rw [len0 h0]; rfl
    clear h0
    go_enter Try.func18, Try.ntmps18
    go_wp2_with (go_at_call 36; (with_reducible refine H.mono ?_); rintro e w' ⟨rfl, rfl⟩)
    go_ret
    exact ⟨ret_bool HR.out, rfl⟩
  · have he : ((s.size : Int) == 0) = false := beqF (by omega)
    have hne : Hid (s.data.toList ≠ []) := by
      intro hh; apply h0; rw [← size_list, hh]; rfl
    cases hi : inS 32 s.data.toList
    · rw [hi] at H
      have HI := hid hi
      clear hi h0
      go_enter Try.func18, Try.ntmps18
      go_wp2_with (go_at_call 36; (with_reducible refine H.mono ?_); rintro e w' ⟨rfl, rfl⟩)
      generalize hW : (({ data := #[32] } : ByteArray) ++ s ++ { data := #[32] }) = W
      have hD : W.data.toList = 32 :: (s.data.toList ++ [32]) := by rw [← hW, ByteArray.data_append, ByteArray.data_append, Array.toList_append, Array.toList_append]; rfl
      have hz : W.size = s.size + 2 := by rw [← size_list W, hD, List.length_cons, List.length_append, size_list]; rfl
      have hz1 : W.size ≤ s.size + 2 := by omega
      have hz2 : s.size + 2 ≤ W.size := by omega
      have HL : Hid (W.toList = 32 :: (s.data.toList ++ [32])) := by
        show _ = _
        rw [ByteArray.toList_eq, hD]
      clear hD
      clear hz hW
      go_loop [4] (fun i => ∃ k : Nat, k ≤ 65 ∧ i = .int .i64 k ∧ ∀ j, j < k → hitW s.data.toList j = false) (fun i => 66 - (intOf i).toNat)
      case atStart => exact ⟨0, by omega, rfl, fun j hj => by omega⟩
      case round =>
        obtain ⟨k, hk, rfl, hn⟩ := hrel
        have HN := hid hn
        clear hn
        by_cases hlt : k + W.size ≤ 65
        · go_wp2
          · have ht : (((⟨wordsB.toArray⟩ : ByteArray).extract k (k + W.size)).toList == W.toList) = true := by assumption
            go_ret
            refine ⟨ret_bool (hit_resL s.data.toList k hne.out HI.out (by rw [size_list]; omega) ?_).symm, rfl⟩
            rw [HL.out, ByteArray.toList_eq, ext_list, show k + W.size - k = s.data.toList.length + 2 by rw [size_list]; omega] at ht
            exact ht
          · have ht : (((⟨wordsB.toArray⟩ : ByteArray).extract k (k + W.size)).toList == W.toList) = false := by assumption
            have HT := hid ht
            clear ht
            go_round
            case rel =>
              refine ⟨k + 1, by omega, by go_num, fun j hj => ?_⟩
              by_cases e : j = k
              · subst e
                have ht := HT.out
                rw [HL.out, ByteArray.toList_eq, ext_list, show j + W.size - j = s.data.toList.length + 2 by rw [size_list]; omega] at ht
                exact ht
              · exact HN.out j (by omega)
            case measure => simp [intOf]; omega
        · go_wp2
          go_ret
          refine ⟨ret_bool ?_, rfl⟩
          cases hr : resL s.data.toList
          · rfl
          · obtain ⟨_, _, i, h1, h2⟩ := resL_hit _ hr
            rw [HN.out i (by rw [size_list] at h1; omega)] at h2
            cases h2
    · rw [hi] at H
      have HR : Hid (false = resL s.data.toList) := by
        show _ = _
        cases hr : resL s.data.toList
        · rfl
        · have := (resL_hit _ hr).2.1
          rw [hi] at this; cases this
      clear hi h0
      go_enter Try.func18, Try.ntmps18
      go_wp2_with (go_at_call 36; (with_reducible refine H.mono ?_); rintro e w' ⟨rfl, rfl⟩)
      go_ret
      exact ⟨ret_bool HR.out, rfl⟩

end Go.Proofs.Ytffajemlbkpmeaa
