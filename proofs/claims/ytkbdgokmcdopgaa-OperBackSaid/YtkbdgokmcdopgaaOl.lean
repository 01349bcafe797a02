/-
  What is written is read again: the plain law; and the law OperBack.
-/
import Derived.Test.YtkbdgokmcdopgaaOj
import Derived.Test.YtkbdgokmcdopgaaOk
namespace Go.Proofs.Ytkbdgokmcdopgaa
open Go.RowKit
set_option linter.unusedVariables false
set_option linter.unusedSimpArgs false

def wrL : List Int → List UInt8
  | [] => []
  | [a] => opText a
  | a :: b :: t => opText a ++ (sepW a b ++ wrL (b :: t))

theorem wrL_snoc : ∀ (ys : List Int) (y x : Int), wrL (ys ++ [y] ++ [x]) = wrL (ys ++ [y]) ++ (sepW y x ++ opText x)
  | [], y, x => by simp [wrL]
  | [a], y, x => by simp [wrL]
  | a :: b :: t, y, x => by
    have := wrL_snoc (b :: t) y x
    simp only [List.cons_append, wrL] at this ⊢
    rw [this]; simp

theorem wrK_eq (xs : List Int) : ∀ k, k ≤ xs.length → wrK xs k = wrL (xs.take k)
  | 0, _ => rfl
  | 1, h => by
    cases xs with
    | nil => simp at h
    | cons a t => simp [wrK, wrL]
  | k + 2, h => by
    have ih := wrK_eq xs (k + 1) (by omega)
    have h1 : xs.take (k + 2) = xs.take k ++ [xs[k]] ++ [xs[k + 1]] := by
      rw [List.take_append_getElem (by omega : k < xs.length), List.take_append_getElem (by omega : k + 1 < xs.length)]
    have h2 : xs.take (k + 1) = xs.take k ++ [xs[k]] := (List.take_append_getElem (by omega : k < xs.length)).symm
    rw [h1, wrL_snoc, ← h2, ← ih]
    show wrK xs (k + 1) ++ (if 0 < k + 1 then sepW (xs.getD (k + 1 - 1) 0) (xs.getD (k + 1) 0) else []) ++ opText (xs.getD (k + 1) 0) = _
    rw [if_pos (by omega), List.append_assoc]
    simp [show k < xs.length by omega, show k + 1 < xs.length by omega]

theorem noblank : ∀ k, k < 18 → (opText (k : Nat)).all (fun c => c != 32) = true := by decide +kernel

theorem dbl_not_tight : ∀ a, a < 18 → a ≠ 0 → ∀ b, b < 18 → b ≠ 0 → (opText (a : Nat) ++ opText (b : Nat) == [60, 60]) = true → tightB (a : Nat) (b : Nat) = false := by decide +kernel

theorem len3_op : ∀ k, k < 18 → (opText (k : Nat)).length = 3 → opText (k : Nat) = [60, 60, 45] := by decide +kernel

theorem opAtC_of (l : List UInt8) (a : Nat) (h1 : 0 < a) (h2 : a ≤ 17) (hp : preOp l a = true) (hm : ∀ k, 0 < k → k ≤ 17 → preOp l k = true → (opText k).length ≤ (opText a).length) : opAtC l = (a, (opText a).length) := by
  obtain ⟨e1, e2⟩ := opAtC_spec l
  have hle := rBest_le l 17
  have hx := rBest_max l 17 a h1 h2 hp
  have hr : rBest l 17 ≠ 0 := by
    intro h0
    rw [h0] at hx
    have := (opText_len a (by omega)).2 (by omega)
    have h9 : (opText ((0 : Nat) : Int)).length = 0 := rfl
    omega
  have hpr := rBest_pre l 17 hr
  have hy := hm _ (by omega) hle hpr
  have hlen : (opText (rBest l 17)).length = (opText a).length := by omega
  have : rBest l 17 = a := by
    apply opText_inj _ (by omega) _ (by omega)
    rw [← ((preOp_iff _ _).1 hpr).2, ← ((preOp_iff _ _).1 hp).2, hlen]
  rw [this] at e1 e2
  exact Prod.ext e1 e2

theorem preOp_app (a : Nat) (r : List UInt8) : preOp (opText a ++ r) a = true := (preOp_iff _ _).2 ⟨by simp, by simp⟩

theorem head_blank (a : Nat) (h1 : 0 < a) (h2 : a ≤ 17) (r : List UInt8) (hr : r = [] ∨ ∃ t, r = 32 :: t) : opAtC (opText a ++ r) = (a, (opText a).length) := by
  refine opAtC_of _ a h1 h2 (preOp_app a r) fun k hk1 hk2 hk => ?_
  obtain ⟨h3, h4⟩ := (preOp_iff _ _).1 hk
  rcases Nat.lt_or_ge (opText a).length (opText k).length with hlt | hge
  · exfalso
    rcases hr with rfl | ⟨t, rfl⟩
    · simp at h3; omega
    · have hnb := noblank k (by omega)
      rw [← h4, List.take_append] at hnb
      obtain ⟨m, hm⟩ : ∃ m, (opText k).length - (opText a).length = m + 1 := ⟨_, (Nat.succ_pred_eq_of_pos (by omega)).symm⟩
      rw [hm] at hnb
      simp at hnb
  · exact hge

theorem head_tight (a b : Nat) (h1 : 0 < a) (h2 : a ≤ 17) (g1 : 0 < b) (g2 : b ≤ 17) (ht : tightB a b = true) (r : List UInt8) : opAtC (opText a ++ (opText b ++ r)) = (a, (opText a).length) := by
  refine opAtC_of _ a h1 h2 (preOp_app a _) fun k hk1 hk2 hk => ?_
  obtain ⟨h3, h4⟩ := (preOp_iff _ _).1 hk
  rw [← List.append_assoc] at h3 h4
  have hab := (opText_len a (by omega)).2 (by omega)
  have hbb := (opText_len b (by omega)).2 (by omega)
  have hk3 := (opText_len k (by omega)).1
  rcases Nat.lt_or_ge (opText a ++ opText b).length (opText k).length with hlt | hge
  · exfalso
    rw [List.length_append] at hlt
    have e3 : (opText k).length = 3 := by omega
    have e4 := len3_op k (by omega) e3
    have e5 : opText a ++ opText b = [60, 60] := by
      have h5 : (opText a ++ opText b).length = 2 := by rw [List.length_append]; omega
      have := congrArg (List.take 2) h4
      rw [e4, List.take_take, List.length_cons, List.length_cons, List.length_cons, List.length_nil] at this
      rw [show min 2 (0 + 1 + 1 + 1) = 2 by rfl, List.take_append_of_le_length (by omega), List.take_of_length_le (by omega)] at this
      exact this
    rw [dbl_not_tight a (by omega) (by omega) b (by omega) (by omega) (by rw [e5]; rfl)] at ht
    cases ht
  · have hpk : preOp (opText a ++ opText b) k = true := (preOp_iff _ _).2 ⟨hge, by rw [List.take_append_of_le_length hge] at h4; exact h4⟩
    rw [tightB_eq] at ht
    simp only [Bool.and_eq_true, beq_iff_eq] at ht
    have e6 : rBest (opText a ++ opText b) 17 = a := by
      have := (opAtC_spec (opText a ++ opText b)).1
      have h9 := ht.2
      omega
    have := rBest_max _ 17 k hk1 hk2 hpk
    rw [e6] at this
    exact this

theorem split_head (a : Nat) (h1 : 0 < a) (r : List UInt8) (h : opAtC (opText a ++ r) = (a, (opText a).length)) (hp : 0 < (opText a).length) : split (opText a ++ r) = (a :: (split r).1, (split r).2) := by
  cases hl : opText a ++ r with
  | nil => have := congrArg List.length hl; simp at this; rw [this.1] at hp; simp at hp
  | cons c t =>
    rw [hl] at h
    rw [split_op c t (by rw [h]; simp; omega), h]
    simp only
    rw [← hl, List.drop_left]

theorem tightB_nat (a b : Int) (ha : 1 ≤ a ∧ a ≤ 17) (hb : 1 ≤ b ∧ b ≤ 17) : tightB a b = tightB (a.toNat : Int) (b.toNat : Int) := by
  rw [Int.toNat_of_nonneg (by omega), Int.toNat_of_nonneg (by omega)]

theorem split_wrL : ∀ xs : List Int, (∀ x ∈ xs, 1 ≤ x ∧ x ≤ 17) → split (wrL xs) = (xs.map Int.toNat, [])
  | [], _ => by rw [wrL, split_eq_nil]; rfl
  | [a], h => by
    have ha := h a (by simp)
    have e : opText a = opText (a.toNat : Int) ++ [] := by rw [Int.toNat_of_nonneg (by omega), List.append_nil]
    rw [wrL, e, split_head a.toNat (by omega) [] (head_blank _ (by omega) (by omega) _ (.inl rfl)) ((opText_len _ (by omega)).2 (by omega)), split_eq_nil]
    rfl
  | a :: b :: t, h => by
    have ha := h a (by simp)
    have hb := h b (by simp)
    have ih := split_wrL (b :: t) fun x hx => h x (List.mem_cons_of_mem _ hx)
    have e : opText a = opText (a.toNat : Int) := by rw [Int.toNat_of_nonneg (by omega)]
    have hp := (opText_len a.toNat (by omega)).2 (by omega)
    rw [wrL, e]
    unfold sepW
    cases ht : tightB a b
    · rw [if_neg (by simp), show ([32] ++ wrL (b :: t)) = 32 :: wrL (b :: t) from rfl, split_head a.toNat (by omega) _ (head_blank _ (by omega) (by omega) _ (.inr ⟨_, rfl⟩)) hp]
      have : split (32 :: wrL (b :: t)) = split (wrL (b :: t)) := split_blank 32 _ (bla_zero 32 _ (by decide)) (.inl rfl)
      rw [this, ih]; rfl
    · rw [if_pos rfl, List.nil_append]
      have hw : ∃ r, wrL (b :: t) = opText (b.toNat : Int) ++ r := by
        have e2 : opText b = opText (b.toNat : Int) := by rw [Int.toNat_of_nonneg (by omega)]
        cases t with
        | nil => exact ⟨[], by rw [wrL, e2, List.append_nil]⟩
        | cons d t => exact ⟨_, by rw [wrL, e2]⟩
      obtain ⟨r, hr⟩ := hw
      rw [tightB_nat a b ha hb] at ht
      have := split_head a.toNat (by omega) (wrL (b :: t)) (by rw [hr]; exact head_tight _ _ (by omega) (by omega) (by omega) (by omega) ht r) hp
      rw [this, ih]; rfl

theorem opText_range {x : Int} (h : opText x ≠ []) : 1 ≤ x ∧ x ≤ 17 := by
  by_cases hr : 1 ≤ x ∧ x ≤ 17
  · exact hr
  · exact absurd (opText_out hr) h

theorem split_wrK (xs : List Int) (h : ∀ x ∈ xs, opText x ≠ []) : split (wrK xs xs.length) = (xs.map Int.toNat, []) := by
  rw [wrK_eq xs _ (Nat.le_refl _), List.take_length]
  exact split_wrL xs fun x hx => opText_range (h x hx)

theorem wrK_le (xs : List Int) (k : Nat) (h : xs.length ≤ 30) (hk : k ≤ xs.length) : (wrK xs k).length ≤ 120 := by
  have := wrK_len xs k; omega

set_option maxHeartbeats 4000000 in
theorem operBack_law (xs : List Int) (A : Option Addr) (c : Nat) (w : World) (hx : ∀ x ∈ xs, I64 x) (hr : ReadsI w w.heap.size A xs) (hm : xs.length ≤ maxLen) :
    Calls Try.prog 7 #[.slice A xs.length c] w fun e w' => e = .returned (.bool true) ∧ Below w.heap.size w w' := by
  unfold maxLen at hm
  by_cases h : xs.length ≤ 30
  · have hW := fun w h => write_any xs A c w (by omega) hx h
    by_cases hall : ∀ x ∈ xs, opText x ≠ []
    · have hsp := split_wrK xs hall
      have hW2 : ∀ w, ReadsI w w.heap.size A xs → Calls Try.prog 19 #[.slice A xs.length c] w fun e w' => e = .returned (.tuple #[.string ⟨(wrK xs xs.length).toArray⟩, .int .i64 0]) ∧ Below w.heap.size w w' := fun w h => by
        refine (hW w h).mono ?_
        rintro e w' ⟨h1, ⟨_, h2⟩ | ⟨h2, _⟩⟩
        · exact ⟨h2, h1⟩
        · exact absurd hall h2
      have hS : ∀ w, Calls Try.prog 18 #[.string ⟨(wrK xs xs.length).toArray⟩] w fun e w' => ∃ A2 c2, e = .returned (.tuple #[.slice A2 xs.length c2, .int .i64 0, .int .i64 0]) ∧ Below w.heap.size w w' ∧ w'.ownsRow w.heap.size 3 1 (.slice A2 xs.length c2) xs.length (xs.map (Value.int .i64)) := fun w => by
        have h1 := split_ok ⟨(wrK xs xs.length).toArray⟩ w (by have := wrK_le xs xs.length h (Nat.le_refl _); show (wrK xs xs.length).length ≤ _; omega) (by show (split (wrK xs xs.length)).2 = []; rw [hsp])
        have h2 : (split (wrK xs xs.length)).1.length = xs.length := by rw [hsp]; simp
        have h3 : ints (split (wrK xs xs.length)).1 = xs.map (Value.int .i64) := by
          rw [hsp]
          simp only [ints, List.map_map]
          refine List.map_congr_left fun x hx => ?_
          have := opText_range (hall x hx)
          simp only [Function.comp]
          rw [Int.toNat_of_nonneg (by omega)]
        refine h1.mono ?_
        rintro e w' ⟨A2, c2, he, hb, ho⟩
        refine ⟨A2, c2, ?_, hb, ?_⟩
        · rw [he]; show Ending.returned (.tuple #[.slice A2 (split (wrK xs xs.length)).1.length c2, _, _]) = _; rw [h2]
        · have ho' : w'.ownsRow w.heap.size 3 1 (.slice A2 (split (wrK xs xs.length)).1.length c2) (split (wrK xs xs.length)).1.length (ints (split (wrK xs xs.length)).1) := ho
          rw [h2, h3] at ho'; exact ho'
      have HALL := hid hall
      have HX := hid hx
      have hB : Below w.heap.size w w := Below.refl _ _
      clear hW hsp hall hx
      go_enter Try.func7, Try.ntmps7
      go_wp2_with (first
        | (go_at_call 8; (with_reducible refine (awake5_any _).mono ?_); rintro e w' ⟨rfl, rfl⟩)
        | (go_at_call 19; (with_reducible refine (hW2 _ hr).mono ?_); rintro e w1 ⟨rfl, hb1⟩))
      have hrb := hr.below hb1
      have HW : Hid ((⟨(wrK xs xs.length).toArray⟩ : ByteArray).data.toList = wrK xs xs.length) := rfl
      generalize (⟨(wrK xs xs.length).toArray⟩ : ByteArray) = W at hS HW
      clear hW2 hr
      go_loopw [5, 6] (fun v i wr => ∃ (k d : Nat) (S : ByteArray), i = .int .i64 k ∧ k ≤ xs.length ∧ v = .string S ∧ S.data.toList = wrK xs k ∧ wr = w1.drewN d) (fun _ i _ => xs.length - (intOf i).toNat)
      case atStart => exact ⟨0, 0, _, rfl, by omega, rfl, rfl, rfl⟩
      case round =>
        obtain ⟨k, d, S, rfl, hk, rfl, hS1, rfl⟩ := hrel
        have HS1 := hid hS1
        have hSz : S.size ≤ 120 := by rw [← size_list, hS1]; exact wrK_le xs k h hk
        clear hS1
        by_cases hlt : k < xs.length
        · obtain ⟨b, off, rfl, hbB, hc⟩ := hrb k hlt
          have HG : Hid (xs.getD k 0 = xs[k]) := by show _ = _; simp [hlt]
          have HI : I64 xs[k] := HX.out _ (List.getElem_mem _)
          have HI2 := HI
          unfold I64 at HI2
          have hT := rtext_any xs[k] (w1.drewN d) HI
          have HWK : Hid (wrK xs (k + 1) = wrK xs k ++ (if 0 < k then sepW (xs.getD (k - 1) 0) xs[k] else []) ++ (opStr xs[k]).data.toList) := by
            show wrK xs k ++ (if 0 < k then sepW (xs.getD (k - 1) 0) (xs.getD k 0) else []) ++ opText (xs.getD k 0) = _
            rw [HG.out]; rfl
          have hs3 := opStr_size xs[k]
          obtain ⟨e1, e2⟩ := toList_cons (s := opStr xs[k]) (HALL.out _ (List.getElem_mem hlt))
          have hcd : ∀ n, (w1.drewN n).cell? ⟨b, off + k, none⟩ = some (.int .i64 xs[k]) := fun _ => hc
          by_cases hk0 : k = 0
          · have HW2 : Hid (wrK xs (k + 1) = wrK xs k ++ (opStr xs[k]).data.toList) := by show _ = _; rw [HWK.out, if_neg (by omega), List.append_nil]
            have hp2 : decide ((0 : Int) < (k : Int)) = false := by simp; omega
            have hp3 : decide (0 < k) = false := by simp; omega
            have hp4 : (k : Int) ≤ 0 := by omega
            clear HWK hc hk0
            generalize opStr xs[k] = T at hT HW2 hs3 e1 e2
            generalize xs[k] = x at hT HI2 hcd
            go_wp2_with (go_at_call 11; (with_reducible refine hT.mono ?_); rintro e w' ⟨rfl, rfl⟩)
            go_quiet (fail)
            go_wp2
            go_roundw
            case rel => exact ⟨k + 1, _, _, by go_num, by omega, rfl, by rw [HW2.out, ByteArray.data_append, Array.toList_append, HS1.out], rfl⟩
            case measure => simp [intOf]; omega
          · have hp : (0 : Int) < (k : Int) := by omega
            have hp2 : decide ((0 : Int) < (k : Int)) = true := by simp; omega
            have hp3 : decide (0 < k) = true := by simp; omega
            obtain ⟨b', off', hA, hbB', hc'⟩ := hrb (k - 1) (by omega)
            injection hA with hA
            injection hA with hA1 hA2
            subst hA1 hA2
            have HG' : Hid (xs.getD (k - 1) 0 = xs[k - 1]) := by show _ = _; simp [show k - 1 < xs.length by omega]
            have HJ : I64 xs[k - 1] := HX.out _ (List.getElem_mem _)
            have hTi := fun n => tight_any xs[k - 1] xs[k] (w1.drewN n) HJ HI
            unfold I64 at HJ
            have HW2 : Hid (wrK xs (k + 1) = wrK xs k ++ (if tightB xs[k - 1] xs[k] then [] else [32]) ++ (opStr xs[k]).data.toList) := by
              show _ = _; rw [HWK.out, if_pos (by omega), HG'.out]; rfl
            have hcd' : ∀ n, (w1.drewN n).cell? ⟨b, off + (k - 1), none⟩ = some (.int .i64 xs[k - 1]) := fun _ => hc'
            clear HWK hc hc'
            generalize opStr xs[k] = T at hT HW2 hs3 e1 e2
            generalize xs[k] = x at hcd hT HI2 HW2 hTi
            generalize xs[k - 1] = y at hcd' HJ HW2 hTi
            cases htb : tightB y x
            all_goals
              rw [htb] at hTi HW2
              clear htb
              go_wp2_with (go_at_call 11; (with_reducible refine hT.mono ?_); rintro e w' ⟨rfl, rfl⟩)
              go_quiet ((go_at_call 16; exact quiet_a (hTi _)))
              go_wp2
              go_roundw
              case rel => exact ⟨k + 1, _, _, by go_num, by omega, rfl, by rw [HW2.out]; simp [HS1.out], rfl⟩
              case measure => simp [intOf]; omega
        · obtain rfl : k = xs.length := by omega
          obtain rfl : S = W := ba_ext (by rw [HS1.out, HW.out])
          go_wp2_with (go_at_call 18; (with_reducible refine (hS _).mono ?_); rintro e w2 ⟨A2, c2, rfl, hb2, ho2⟩)
          have HCC : Hid (∀ k (hk : k < xs.length), ∃ b off g2, A = some ⟨b, off, none⟩ ∧ A2 = some ⟨g2, 0, none⟩ ∧ w2.cell? ⟨b, off + k, none⟩ = some (.int .i64 xs[k]) ∧ w2.cell? ⟨g2, k, none⟩ = some (.int .i64 xs[k])) := by
            intro k hk
            obtain ⟨b, off, h1, h2, h3⟩ := hrb k hk
            obtain ⟨g2, c3, h4, _, h5⟩ := own_cells2 ho2 (by omega)
            injection h4 with h4
            have hsz := hb1.size
            exact ⟨b, off, g2, h1, h4, (hb2.cell (p := ⟨b, off + k, none⟩) (by show b < w1.heap.size; omega)).trans h3, h5 k _ (by simp [hk])⟩
          have hBB : Below w.heap.size w w2 := (below_drewN hb1 d).trans (hb2.mono hb1.size)
          have hpl : xs.length ≤ 30 := h
          clear hrb ho2 hb2 hS
          go_loopw [11] (fun i wr => ∃ k d : Nat, i = .int .i64 k ∧ k ≤ xs.length ∧ wr = w2.drewN d) (fun i _ => xs.length - (intOf i).toNat)
          case atStart => exact ⟨0, 0, rfl, by omega, rfl⟩
          case round =>
            obtain ⟨k, d, rfl, hk, rfl⟩ := hrel
            by_cases hlt : k < xs.length
            · obtain ⟨b, off, g2, rfl, rfl, hc1, hc2⟩ := HCC.out k hlt
              generalize xs[k] = q at hc1 hc2
              have hd1 : ∀ n, (w2.drewN n).cell? ⟨b, off + k, none⟩ = some (.int .i64 q) := fun _ => hc1
              have hd2 : ∀ n, (w2.drewN n).cell? ⟨g2, k, none⟩ = some (.int .i64 q) := fun _ => hc2
              clear hc1 hc2
              go_wp2
              go_quiet (fail)
              go_wp2
              go_roundw
              case rel => exact ⟨k + 1, _, by go_num, by omega, rfl⟩
              case measure => simp [intOf]; omega
            · go_wp2
              go_ret
              exact ⟨rfl, below_drewN hBB _⟩
    · have hW2 : ∀ w, ReadsI w w.heap.size A xs → Calls Try.prog 19 #[.slice A xs.length c] w fun e w' => e = .returned (.tuple #[.string ⟨#[]⟩, .int .i64 8]) ∧ Below w.heap.size w w' := fun w h => by
        refine (hW w h).mono ?_
        rintro e w' ⟨h1, ⟨h2, _⟩ | ⟨_, h2⟩⟩
        · exact absurd h2 hall
        · exact ⟨h2, h1⟩
      have HALL := hid hall
      have HX := hid hx
      clear hW hall hx
      go_enter Try.func7, Try.ntmps7
      go_wp2_with (first
        | (go_at_call 8; (with_reducible refine (awake5_any _).mono ?_); rintro e w' ⟨rfl, rfl⟩)
        | (go_at_call 19; (with_reducible refine (hW2 _ hr).mono ?_); rintro e w1 ⟨rfl, hb1⟩))
      have hrb := hr.below hb1
      clear hW2 hr
      go_loopw [5, 6] (fun v i wr => ∃ (k d : Nat) (S : ByteArray), i = .int .i64 k ∧ k ≤ xs.length ∧ v = .string S ∧ S.data.toList = wrK xs k ∧ (∀ j, j < k → opText (xs.getD j 0) ≠ []) ∧ wr = w1.drewN d) (fun _ i _ => xs.length - (intOf i).toNat)
      case atStart => exact ⟨0, 0, _, rfl, by omega, rfl, rfl, fun j hj => by omega, rfl⟩
      case round =>
        obtain ⟨k, d, S, rfl, hk, rfl, hS1, hne, rfl⟩ := hrel
        have HN := hid hne
        clear hne
        have HS1 := hid hS1
        have hSz : S.size ≤ 120 := by rw [← size_list, hS1]; exact wrK_le xs k h hk
        clear hS1
        by_cases hlt : k < xs.length
        · obtain ⟨b, off, rfl, hbB, hc⟩ := hrb k hlt
          have HG : Hid (xs.getD k 0 = xs[k]) := by show _ = _; simp [hlt]
          have HI : I64 xs[k] := HX.out _ (List.getElem_mem _)
          have HI2 := HI
          unfold I64 at HI2
          have hT := rtext_any xs[k] (w1.drewN d) HI
          have HWK : Hid (wrK xs (k + 1) = wrK xs k ++ (if 0 < k then sepW (xs.getD (k - 1) 0) xs[k] else []) ++ (opStr xs[k]).data.toList) := by
            show wrK xs k ++ (if 0 < k then sepW (xs.getD (k - 1) 0) (xs.getD k 0) else []) ++ opText (xs.getD k 0) = _
            rw [HG.out]; rfl
          have hs3 := opStr_size xs[k]
          have hcd : ∀ n, (w1.drewN n).cell? ⟨b, off + k, none⟩ = some (.int .i64 xs[k]) := fun _ => hc
          by_cases h0 : (opStr xs[k]).data.toList = []
          · obtain ⟨e1, e2⟩ := toList_empty h0
            clear h0 HWK hc
            generalize opStr xs[k] = T at hT hs3 e1 e2
            generalize xs[k] = x at hT HI2 hcd
            go_wp2_with (go_at_call 11; (with_reducible refine hT.mono ?_); rintro e w' ⟨rfl, rfl⟩)
            go_ret
            exact ⟨rfl, below_drewN hb1 _⟩
          obtain ⟨e1, e2⟩ := toList_cons h0
          have HNE : Hid (∀ j, j < k + 1 → opText (xs.getD j 0) ≠ []) := by
            intro j hj
            by_cases e : j = k
            · subst e; rw [HG.out]; exact h0
            · exact HN.out j (by omega)
          clear h0
          by_cases hk0 : k = 0
          · have HW2 : Hid (wrK xs (k + 1) = wrK xs k ++ (opStr xs[k]).data.toList) := by show _ = _; rw [HWK.out, if_neg (by omega), List.append_nil]
            have hp2 : decide ((0 : Int) < (k : Int)) = false := by simp; omega
            have hp3 : decide (0 < k) = false := by simp; omega
            have hp4 : (k : Int) ≤ 0 := by omega
            clear HWK hc hk0
            generalize opStr xs[k] = T at hT HW2 hs3 e1 e2
            generalize xs[k] = x at hT HI2 hcd
            go_wp2_with (go_at_call 11; (with_reducible refine hT.mono ?_); rintro e w' ⟨rfl, rfl⟩)
            go_quiet (fail)
            go_wp2
            go_roundw
            case rel => exact ⟨k + 1, _, _, by go_num, by omega, rfl, by rw [HW2.out, ByteArray.data_append, Array.toList_append, HS1.out], HNE.out, rfl⟩
            case measure => simp [intOf]; omega
          · have hp : (0 : Int) < (k : Int) := by omega
            have hp2 : decide ((0 : Int) < (k : Int)) = true := by simp; omega
            have hp3 : decide (0 < k) = true := by simp; omega
            obtain ⟨b', off', hA, hbB', hc'⟩ := hrb (k - 1) (by omega)
            injection hA with hA
            injection hA with hA1 hA2
            subst hA1 hA2
            have HG' : Hid (xs.getD (k - 1) 0 = xs[k - 1]) := by show _ = _; simp [show k - 1 < xs.length by omega]
            have HJ : I64 xs[k - 1] := HX.out _ (List.getElem_mem _)
            have hTi := fun n => tight_any xs[k - 1] xs[k] (w1.drewN n) HJ HI
            unfold I64 at HJ
            have HW2 : Hid (wrK xs (k + 1) = wrK xs k ++ (if tightB xs[k - 1] xs[k] then [] else [32]) ++ (opStr xs[k]).data.toList) := by
              show _ = _; rw [HWK.out, if_pos (by omega), HG'.out]; rfl
            have hcd' : ∀ n, (w1.drewN n).cell? ⟨b, off + (k - 1), none⟩ = some (.int .i64 xs[k - 1]) := fun _ => hc'
            clear HWK hc hc'
            generalize opStr xs[k] = T at hT HW2 hs3 e1 e2
            generalize xs[k] = x at hcd hT HI2 HW2 hTi
            generalize xs[k - 1] = y at hcd' HJ HW2 hTi
            cases htb : tightB y x
            all_goals
              rw [htb] at hTi HW2
              clear htb
              go_wp2_with (go_at_call 11; (with_reducible refine hT.mono ?_); rintro e w' ⟨rfl, rfl⟩)
              go_quiet ((go_at_call 16; exact quiet_a (hTi _)))
              go_wp2
              go_roundw
              case rel => exact ⟨k + 1, _, _, by go_num, by omega, rfl, by rw [HW2.out]; simp [HS1.out], HNE.out, rfl⟩
              case measure => simp [intOf]; omega
        · exfalso
          obtain rfl : k = xs.length := by omega
          apply HALL.out
          intro x hx
          obtain ⟨j, hj, rfl⟩ := List.getElem_of_mem hx
          have := HN.out j hj
          simpa [hj] using this
  · go_enter Try.func7, Try.ntmps7
    go_wp2_with (go_at_call 8; (with_reducible refine (awake5_any _).mono ?_); rintro e w' ⟨rfl, rfl⟩)
    go_ret
    exact ⟨rfl, blw⟩
end Go.Proofs.Ytkbdgokmcdopgaa
