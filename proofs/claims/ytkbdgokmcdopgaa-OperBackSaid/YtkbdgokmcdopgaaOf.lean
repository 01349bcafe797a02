/-
  How a text parts into operators: the plain function, and the reference's Split.
-/
import Derived.Test.YtkbdgokmcdopgaaOd
import Derived.Test.YtkbdgokmcdopgaaM
namespace Go.Proofs.Ytkbdgokmcdopgaa
open Go.RowKit
set_option linter.unusedVariables false
set_option linter.unusedSimpArgs false

/-- the operators of a text, and what is left from the first byte on that is none -/
def splitF : Nat → List UInt8 → List Nat × List UInt8
  | 0, l => ([], l)
  | _ + 1, [] => ([], [])
  | f + 1, c :: l =>
    if (opAtC (c :: l)).1 ≠ 0 then match splitF f ((c :: l).drop (opAtC (c :: l)).2) with | (o, r) => ((opAtC (c :: l)).1 :: o, r)
    else if c = 32 ∨ c = 9 then splitF f l else ([], c :: l)

theorem splitF_nil (f : Nat) : splitF f [] = ([], []) := by cases f <;> rfl

theorem splitF_op (f : Nat) (c : UInt8) (l : List UInt8) (h : (opAtC (c :: l)).1 ≠ 0) :
    splitF (f + 1) (c :: l) = ((opAtC (c :: l)).1 :: (splitF f ((c :: l).drop (opAtC (c :: l)).2)).1, (splitF f ((c :: l).drop (opAtC (c :: l)).2)).2) := by
  simp only [splitF]; rw [if_pos h]

theorem splitF_blank (f : Nat) (c : UInt8) (l : List UInt8) (h : (opAtC (c :: l)).1 = 0) (hc : c = 32 ∨ c = 9) : splitF (f + 1) (c :: l) = splitF f l := by
  simp only [splitF]; rw [if_neg (by simpa using h), if_pos hc]

theorem splitF_bad (f : Nat) (c : UInt8) (l : List UInt8) (h : (opAtC (c :: l)).1 = 0) (hc : ¬ (c = 32 ∨ c = 9)) : splitF (f + 1) (c :: l) = ([], c :: l) := by
  simp only [splitF]; rw [if_neg (by simpa using h), if_neg hc]

theorem opAtC_pos (l : List UInt8) (h : (opAtC l).1 ≠ 0) : 0 < (opAtC l).2 ∧ (opAtC l).2 ≤ l.length ∧ (opAtC l).1 ≤ 17 ∧ opText (opAtC l).1 = l.take (opAtC l).2 ∧ (opText (opAtC l).1).length = (opAtC l).2 := by
  obtain ⟨a, b⟩ := opAtC_spec l
  rw [a] at h
  have h1 := rBest_le l 17
  obtain ⟨h2, h3⟩ := (preOp_iff _ _).1 (rBest_pre l 17 h)
  have h4 := (opText_len (rBest l 17) (by omega)).2 h
  rw [a, b]
  exact ⟨h4, h2, h1, h3.symm, rfl⟩

theorem splitF_fuel : ∀ (f g : Nat) (l : List UInt8), l.length ≤ f → l.length ≤ g → splitF f l = splitF g l
  | f, g, [], _, _ => by rw [splitF_nil, splitF_nil]
  | f + 1, g + 1, c :: l, hf, hg => by
    simp only [List.length_cons] at hf hg
    by_cases h : (opAtC (c :: l)).1 = 0
    · by_cases hc : c = 32 ∨ c = 9
      · rw [splitF_blank f c l h hc, splitF_blank g c l h hc]; exact splitF_fuel f g l (by omega) (by omega)
      · rw [splitF_bad f c l h hc, splitF_bad g c l h hc]
    · obtain ⟨h1, h2, _⟩ := opAtC_pos _ h
      have h3 : ((c :: l).drop (opAtC (c :: l)).2).length ≤ l.length := by rw [List.length_drop, List.length_cons]; omega
      rw [splitF_op f c l h, splitF_op g c l h, splitF_fuel f g _ (by omega) (by omega)]
  | 0, g, c :: l, hf, _ => by simp at hf
  | f + 1, 0, c :: l, _, hg => by simp at hg

def split (l : List UInt8) : List Nat × List UInt8 := splitF l.length l

theorem split_nil : split [] = ([], []) := rfl

theorem split_op (c : UInt8) (l : List UInt8) (h : (opAtC (c :: l)).1 ≠ 0) :
    split (c :: l) = ((opAtC (c :: l)).1 :: (split ((c :: l).drop (opAtC (c :: l)).2)).1, (split ((c :: l).drop (opAtC (c :: l)).2)).2) := by
  obtain ⟨h1, h2, _⟩ := opAtC_pos _ h
  rw [split, List.length_cons, splitF_op _ _ _ h, split, splitF_fuel l.length _ _ (by rw [List.length_drop, List.length_cons]; omega) (Nat.le_refl _)]

theorem split_blank (c : UInt8) (l : List UInt8) (h : (opAtC (c :: l)).1 = 0) (hc : c = 32 ∨ c = 9) : split (c :: l) = split l := splitF_blank _ c l h hc

theorem split_bad (c : UInt8) (l : List UInt8) (h : (opAtC (c :: l)).1 = 0) (hc : ¬ (c = 32 ∨ c = 9)) : split (c :: l) = ([], c :: l) := splitF_bad _ c l h hc

theorem splitF_len : ∀ (f : Nat) (l : List UInt8), (splitF f l).2.length ≤ l.length
  | 0, l => Nat.le_refl _
  | f + 1, [] => Nat.le_refl _
  | f + 1, c :: l => by
    by_cases h : (opAtC (c :: l)).1 = 0
    · by_cases hc : c = 32 ∨ c = 9
      · rw [splitF_blank f c l h hc]; have := splitF_len f l; simp only [List.length_cons]; omega
      · rw [splitF_bad f c l h hc]; exact Nat.le_refl _
    · rw [splitF_op f c l h]
      have := splitF_len f ((c :: l).drop (opAtC (c :: l)).2)
      rw [List.length_drop] at this
      simp only; omega

theorem split_len (l : List UInt8) : (split l).2.length ≤ l.length := splitF_len _ l

theorem split_eq_nil : split [] = ([], []) := rfl

attribute [irreducible] split

theorem int_info : (Try.prog.info? 3).map (fun i => (i.zero, i.size, i.bytes)) = some (some (.int .i64 0), 1, 8) := by kernel_rfl

def ints (l : List Nat) : List Value := l.map fun (n : Nat) => Value.int .i64 (n : Int)

theorem ints_snoc (l : List Nat) (n : Nat) : ints (l ++ [n]) = ints l ++ [.int .i64 n] := by simp [ints]

def RSplitPost (l : List UInt8) (w : World) (e : Ending) (w' : World) : Prop :=
  ∃ v a, e = .returned (.tuple #[v, .int .i64 a]) ∧ Below w.heap.size w w' ∧
    ((split l).2 = [] ∧ a = -1 ∧ w'.ownsRow w.heap.size 3 1 v (split l).1.length (ints (split l).1) ∨ (split l).2 ≠ [] ∧ v = .slice none 0 0 ∧ a = (l.length : Int) - (split l).2.length)

set_option maxHeartbeats 1000000 in
theorem rsplit_any (s : ByteArray) (w : World) (hs : s.size ≤ 1000000000) :
    Calls Try.prog 17 #[.string s] w (RSplitPost s.data.toList w) := by
  obtain ⟨i0, hi, hz0, hz1, hz2⟩ := info_parts int_info
  obtain ⟨B, hB⟩ : ∃ B, B = w.heap.size := ⟨_, rfl⟩
  have HBB := hid hB
  have hBl : B ≤ w.heap.size := by omega
  have hbw : Below B w w := Below.refl _ _
  clear hB
  go_enter Try.func17, Try.ntmps17
  go_wp2
  go_loopw [4, 5] (fun v i wr => ∃ (n : Nat) (outs : List Nat), n ≤ s.size ∧ outs.length ≤ n ∧ i = .int .i64 n ∧ wr.ownsRow B 3 1 v outs.length (ints outs) ∧ Below B w wr ∧
      (split s.data.toList) = (outs ++ (split (s.data.toList.drop n)).1, (split (s.data.toList.drop n)).2)) (fun _ i _ => s.size - (intOf i).toNat)
  case atStart => exact ⟨0, [], by omega, by simp, rfl, World.ownsRow_nil _ _ _ _, hbw, by simp⟩
  case round =>
    obtain ⟨n, outs, hn, ho, rfl, hown, hbr, hsp⟩ := hrel
    have HS := hid hsp
    clear hsp hbw
    have hBr : B ≤ wr.heap.size := Nat.le_trans hBl hbr.size
    by_cases hlt : n < s.size
    · have H1 := rat_any s n wr (by omega) (by omega)
      have HD := hid (drop_cons s n hlt)
      have hq := opAtC_spec (s.data.toList.drop n)
      have HQ := hid hq
      have hr := rBest_le (s.data.toList.drop n) 17
      clear hq
      generalize rBest (s.data.toList.drop n) 17 = r at H1 HQ hr
      by_cases h0 : r = 0
      · subst h0
        have HZ : Hid ((opAtC (s[n] :: s.data.toList.drop (n + 1))).1 = 0) := by
          show _ = _
          rw [← HD.out]; exact HQ.out.1
        by_cases h32 : s[n] = 32
        · have e1 : ((s[n].toNat : Int) == 32) = true := by rw [h32]; rfl
          have HB : Hid (split (s.data.toList.drop n) = split (s.data.toList.drop (n + 1))) := by
            show _ = _
            rw [HD.out]; exact split_blank _ _ HZ.out (.inl h32)
          clear h32
          go_wp2_with (go_at_call 10; (with_reducible refine H1.mono ?_); rintro e w' ⟨rfl, rfl⟩)
          go_roundw
          case rel => exact ⟨n + 1, outs, by omega, by omega, by go_num, hown, hbr, by rw [HS.out, HB.out]⟩
          case measure => simp [intOf]; omega
        · have e1 : ((s[n].toNat : Int) == 32) = false := beqF (byte_ne h32)
          by_cases h9 : s[n] = 9
          · have e2 : ((s[n].toNat : Int) == 9) = true := by rw [h9]; rfl
            have HB : Hid (split (s.data.toList.drop n) = split (s.data.toList.drop (n + 1))) := by
              show _ = _
              rw [HD.out]; exact split_blank _ _ HZ.out (.inr h9)
            clear h32 h9
            go_wp2_with (go_at_call 10; (with_reducible refine H1.mono ?_); rintro e w' ⟨rfl, rfl⟩)
            go_roundw
            case rel => exact ⟨n + 1, outs, by omega, by omega, by go_num, hown, hbr, by rw [HS.out, HB.out]⟩
            case measure => simp [intOf]; omega
          · have e2 : ((s[n].toNat : Int) == 9) = false := beqF (byte_ne h9)
            have HB : Hid (split (s.data.toList.drop n) = ([], s.data.toList.drop n)) := by
              show _ = _
              rw [HD.out]; exact split_bad _ _ HZ.out (by simp [h32, h9])
            clear h32 h9
            go_wp2_with (go_at_call 10; (with_reducible refine H1.mono ?_); rintro e w' ⟨rfl, rfl⟩)
            go_ret2
            refine ⟨_, _, rfl, by rw [← HBB.out]; exact hbr, .inr ⟨?_, rfl, ?_⟩⟩
            · rw [HS.out, HB.out, HD.out]; simp
            · rw [HS.out, HB.out, size_list]; simp; omega
      · have hp : (0 : Int) < r := by omega
        have H2 := rtext_any r
        have HZ : Hid ((opAtC (s.data.toList.drop n)).1 = r ∧ (opAtC (s.data.toList.drop n)).2 = (opStr r).size) := HQ.out
        have hpos := opAtC_pos (s.data.toList.drop n) (by rw [HZ.out.1]; exact h0)
        rw [HZ.out.2, List.length_drop, size_list] at hpos
        have hp1 : 0 < (opStr r).size := hpos.1
        have hp2 : n + (opStr r).size ≤ s.size := by have := hpos.2.1; omega
        have HB : Hid (split (s.data.toList.drop n) = (r :: (split (s.data.toList.drop (n + (opStr r).size))).1, (split (s.data.toList.drop (n + (opStr r).size))).2)) := by
          show _ = _
          have h3 := HZ.out
          rw [HD.out] at h3
          rw [HD.out, split_op _ _ (by rw [h3.1]; exact h0), h3.1, h3.2, ← HD.out, List.drop_drop]
        clear hpos
        generalize opStr (r : Int) = T at H2 hp1 hp2 HB HZ
        go_wp2_with (first
          | (go_at_call 10; (with_reducible refine H1.mono ?_); rintro e w' ⟨rfl, rfl⟩)
          | (at_builtin; refine wpl_app1 rfl _ _ _ rfl Try.underlying32 hi hz0 hz1 hz2 rfl (by decide) rfl hown hbr hBr [.int .i64 r] rfl rfl (by simp [Value.oneCell']) (by simp only [maxLen]; omega) (by omega) ?_; intro v1 w1 hown1 hb1 hg1)
          | (go_at_call 11; (with_reducible refine (H2 _ (by unfold I64; omega)).mono ?_); rintro e w' ⟨rfl, rfl⟩))
        go_roundw
        case rel => exact ⟨n + T.size, outs ++ [r], by omega, by simp; omega, by go_num, by rw [ints_snoc, List.length_append]; exact hown1, hb1, by rw [HS.out, HB.out]; simp⟩
        case measure => simp [intOf]; omega
    · go_wp2
      go_ret2
      have h1 : s.data.toList.drop n = [] := List.drop_of_length_le (by rw [size_list]; omega)
      have h2 := HS.out
      rw [h1, split_eq_nil] at h2
      refine ⟨_, _, rfl, by rw [← HBB.out]; exact hbr, .inl ⟨by rw [h2], rfl, ?_⟩⟩
      rw [h2, ← HBB.out]; simpa using hown
end Go.Proofs.Ytkbdgokmcdopgaa
