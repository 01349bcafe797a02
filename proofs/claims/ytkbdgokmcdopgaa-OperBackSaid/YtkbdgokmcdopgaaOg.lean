/-
  oper.Tight, and the law OperTight.
-/
import Derived.Test.YtkbdgokmcdopgaaOe
import Derived.Test.YtkbdgokmcdopgaaOf
namespace Go.Proofs.Ytkbdgokmcdopgaa
open Go.RowKit
set_option linter.unusedVariables false
set_option linter.unusedSimpArgs false

@[irreducible] def tightB (a b : Int) : Bool := !(opText a).isEmpty && !(opText b).isEmpty && (((opAtC (opText a ++ opText b)).1 : Int) == a)

theorem tightB_eq (a b : Int) : tightB a b = (!(opText a).isEmpty && !(opText b).isEmpty && (((opAtC (opText a ++ opText b)).1 : Int) == a)) := by unfold tightB; rfl

theorem toList_empty {s : ByteArray} (h : s.data.toList = []) : (s.toList == []) = true ∧ s.toList.isEmpty = true := by rw [ByteArray.toList_eq, h]; exact ⟨rfl, rfl⟩

theorem toList_cons {s : ByteArray} (h : s.data.toList ≠ []) : (s.toList == []) = false ∧ s.toList.isEmpty = false := by
  rw [ByteArray.toList_eq]; cases hh : s.data.toList
  · exact absurd hh h
  · exact ⟨rfl, rfl⟩

set_option maxHeartbeats 1000000 in
theorem tight_any (a b : Int) (w : World) (ha : I64 a) (hb : I64 b) :
    Calls Try.prog 16 #[.int .i64 a, .int .i64 b] w fun e w' => e = .returned (.bool (tightB a b)) ∧ w = w' := by
  have H1 := text_any a w ha
  have H2 := text_any b w hb
  unfold I64 at ha hb
  by_cases h1 : (opStr a).data.toList = []
  · obtain ⟨e1, e2⟩ := toList_empty h1
    have HR : Hid (tightB a b = false) := by
      show _ = _
      rw [tightB_eq]; have : opText a = [] := h1; rw [this]; rfl
    clear h1
    generalize opStr a = X at H1 e1 e2
    generalize opStr b = Y at H2
    go_enter Try.func16, Try.ntmps16
    go_wp2_with (first
      | (go_at_call 13; (with_reducible refine H1.mono ?_); clear H1; rintro e w' ⟨rfl, rfl⟩)
      | (go_at_call 13; (with_reducible refine H2.mono ?_); clear H2; rintro e w' ⟨rfl, rfl⟩))
    go_ret
    exact ⟨ret_bool HR.out.symm, rfl⟩
  · obtain ⟨e1, e2⟩ := toList_cons h1
    by_cases h2 : (opStr b).data.toList = []
    · obtain ⟨e3, e4⟩ := toList_empty h2
      have HR : Hid (tightB a b = false) := by
        show _ = _
        rw [tightB_eq]; have : opText b = [] := h2; rw [this]; simp
      clear h1 h2
      generalize opStr a = X at H1 e1 e2
      generalize opStr b = Y at H2 e3 e4
      go_enter Try.func16, Try.ntmps16
      go_wp2_with (first
        | (go_at_call 13; (with_reducible refine H1.mono ?_); clear H1; rintro e w' ⟨rfl, rfl⟩)
        | (go_at_call 13; (with_reducible refine H2.mono ?_); clear H2; rintro e w' ⟨rfl, rfl⟩))
      go_ret
      exact ⟨ret_bool HR.out.symm, rfl⟩
    · obtain ⟨e3, e4⟩ := toList_cons h2
      have hz : (opStr a ++ opStr b).size ≤ 6 := by
        have := opStr_size a; have := opStr_size b
        rw [ByteArray.size_append]; omega
      have hz2 : 0 < (opStr a ++ opStr b).size := by
        rw [ByteArray.size_append]
        have : (opStr a).size ≠ 0 := fun h => h1 (List.length_eq_zero_iff.1 (by rw [size_list]; exact h))
        omega
      have H3 := operAt_in (opStr a ++ opStr b) 0 w (by omega) hz2
      have HR : Hid (tightB a b = (((opAt (opStr a ++ opStr b).data.toList ((0 : Nat) : Int)).1 : Int) == a)) := by
        show _ = _
        rw [tightB_eq, opAt_eq, ByteArray.data_append, Array.toList_append]
        have g1 : (opText a).isEmpty = false := by cases hh : opText a with | nil => exact absurd hh h1 | cons => rfl
        have g2 : (opText b).isEmpty = false := by cases hh : opText b with | nil => exact absurd hh h2 | cons => rfl
        rw [g1, g2]; rfl
      generalize opAt (opStr a ++ opStr b).data.toList ((0 : Nat) : Int) = q at H3 HR
      rw [show ((0 : Nat) : Int) = 0 from rfl] at H3
      clear h1 h2 hz hz2
      have hx := opStr_size a
      have hy := opStr_size b
      generalize opStr a = X at H1 H3 e1 e2 hx
      generalize opStr b = Y at H2 H3 e3 e4 hy
      go_enter Try.func16, Try.ntmps16
      go_wp2_with (first
        | (go_at_call 13; (with_reducible refine H1.mono ?_); clear H1; rintro e w' ⟨rfl, rfl⟩)
        | (go_at_call 13; (with_reducible refine H2.mono ?_); clear H2; rintro e w' ⟨rfl, rfl⟩)
        | (go_at_call 9; (with_reducible refine H3.mono ?_); rintro e w' ⟨rfl, rfl⟩))
      go_ret
      exact ⟨ret_bool HR.out.symm, rfl⟩

theorem tight_split : ∀ a, a < 18 → a ≠ 0 → ∀ b, b < 18 → b ≠ 0 → tightB (a : Nat) (b : Nat) = (decide ((split (opText (a : Nat) ++ opText (b : Nat))).2 = []) && ((split (opText (a : Nat) ++ opText (b : Nat))).1 == [a, b])) := by
  decide +kernel

theorem tightB_out {a b : Int} (h : ¬ (1 ≤ a ∧ a ≤ 17) ∨ ¬ (1 ≤ b ∧ b ≤ 17)) : tightB a b = false := by
  rw [tightB_eq]
  rcases h with h | h
  · rw [opText_out h]; rfl
  · rw [opText_out (op := b) h]; simp

theorem opStr_nil {a : Int} (h : ¬ (1 ≤ a ∧ a ≤ 17)) : (opStr a).data.toList = [] := opText_out h

theorem opStr_ne {a : Int} (h : 1 ≤ a ∧ a ≤ 17) : (opStr a).data.toList ≠ [] := by
  obtain ⟨n, rfl⟩ : ∃ n : Nat, a = n := ⟨a.toNat, by omega⟩
  have := (opText_len n (by omega)).2 (by omega)
  intro hh
  have h2 : (opText (n : Int)).length = 0 := by rw [show opText (n : Int) = [] from hh]; rfl
  omega

theorem own_cells2 {w : World} {B : Nat} {e : TypeId} {v : Value} {n : Nat} {xs : List Value} (h : w.ownsRow B e 1 v n xs) (hn : 0 < n) : ∃ g c, v = .slice (some ⟨g, 0, none⟩) n c ∧ B ≤ g ∧ ∀ j u, xs[j]? = some u → w.cell? ⟨g, j, none⟩ = some u := by
  rcases h.2 with ⟨_, h0⟩ | ⟨g, cap, cur, rfl, hB, hg, _, _, _, htake⟩
  · omega
  · refine ⟨g, cap, rfl, hB, fun j u hu => ?_⟩
    have := h.cells (g := g) rfl j u hu
    have e : (⟨g, 0, none⟩ : Addr).add j = ⟨g, j, none⟩ := by unfold Addr.add; split <;> simp_all
    rw [e] at this; exact this

set_option maxHeartbeats 2000000 in
theorem operTight_law (a b : Int) (w : World) (ha : I64 a) (hb : I64 b) :
    Calls Try.prog 5 #[.int .i64 a, .int .i64 b] w fun e w' => e = .returned (.bool true) ∧ Below w.heap.size w w' := by
  have HT := fun w => tight_any a b w ha hb
  have H1 := fun w => rtext_any a w ha
  have H2 := fun w => rtext_any b w hb
  have ha2 := ha
  have hb2 := hb
  unfold I64 at ha2 hb2
  by_cases hr : (1 ≤ a ∧ a ≤ 17) ∧ (1 ≤ b ∧ b ≤ 17)
  · obtain ⟨hra, hrb⟩ := hr
    obtain ⟨e1, e2⟩ := toList_cons (opStr_ne hra)
    obtain ⟨e3, e4⟩ := toList_cons (opStr_ne hrb)
    have hx := opStr_size a
    have hy := opStr_size b
    have HS := fun w => rsplit_any (opStr a ++ opStr b) w (by rw [ByteArray.size_append]; omega)
    have hsz : (opStr a ++ opStr b).data.toList.length ≤ 6 := by rw [size_list, ByteArray.size_append]; omega
    have htw : tightB a b = (decide ((split (opStr a ++ opStr b).data.toList).2 = []) && ((split (opStr a ++ opStr b).data.toList).1.map (fun (n : Nat) => (n : Int)) == [a, b])) := by
      rw [ByteArray.data_append, Array.toList_append]
      show tightB a b = (decide ((split (opText a ++ opText b)).2 = []) && _)
      obtain ⟨m, rfl⟩ : ∃ n : Nat, a = n := ⟨a.toNat, by omega⟩
      obtain ⟨n, rfl⟩ : ∃ n : Nat, b = n := ⟨b.toNat, by omega⟩
      rw [tight_split m (by omega) (by omega) n (by omega) (by omega)]
      congr 1
      show _ = ((split (opText (m : Int) ++ opText (n : Int))).1.map _ == _)
      rw [Bool.eq_iff_iff, beq_iff_eq, beq_iff_eq]
      constructor
      · intro h; rw [h]; rfl
      · intro h
        exact List.map_inj_right (f := fun (n : Nat) => (n : Int)) (by intro x y hxy; have h5 : (x : Int) = y := hxy; omega) |>.1 (by simpa using h)
    have HW := hid htw
    clear htw
    have HS2 : ∀ w, Calls Try.prog 17 #[.string (opStr a ++ opStr b)] w fun e w' => ∃ v k, e = .returned (.tuple #[v, .int .i64 k]) ∧ Below w.heap.size w w' ∧
        ((split (opStr a ++ opStr b).data.toList).2 = [] ∧ k = -1 ∧ w'.ownsRow w.heap.size 3 1 v (split (opStr a ++ opStr b).data.toList).1.length (ints (split (opStr a ++ opStr b).data.toList).1) ∨
          (split (opStr a ++ opStr b).data.toList).2 ≠ [] ∧ v = .slice none 0 0 ∧ 0 ≤ k ∧ k ≤ 6) := fun w => by
      refine (HS w).mono ?_
      rintro e w' ⟨v, k, he, hbw, hc⟩
      refine ⟨v, k, he, hbw, ?_⟩
      rcases hc with ⟨h1, h2, h3⟩ | ⟨h1, h2, h3⟩
      · exact .inl ⟨h1, h2, h3⟩
      · have := split_len (opStr a ++ opStr b).data.toList
        exact .inr ⟨h1, h2, by omega, by omega⟩
    clear HS hsz
    generalize split (opStr a ++ opStr b).data.toList = S at HW HS2
    obtain ⟨ps, rst⟩ := S
    generalize tightB a b = tb at HT HW
    generalize opStr a = X at H1 HS2 e1 e2 hx
    generalize opStr b = Y at H2 HS2 e3 e4 hy
    cases rst with
    | cons r rs =>
      have HS3 : ∀ w, Calls Try.prog 17 #[.string (X ++ Y)] w fun e w' => ∃ k : Nat, e = .returned (.tuple #[.slice none 0 0, .int .i64 k]) ∧ Below w.heap.size w w' := fun w => by
        refine (HS2 w).mono ?_
        rintro e w' ⟨v, k, he, hbw, ⟨h1, _⟩ | ⟨_, h2, h3, h4⟩⟩
        · simp at h1
        · refine ⟨k.toNat, ?_, hbw⟩
          rw [he, h2, Int.toNat_of_nonneg h3]
      have : tb = false := by have := HW.out; simpa using this
      subst this
      clear HS2
      have e5 : ∀ k : Nat, ((k : Int) == -1) = false := fun k => beqF (by omega)
      go_enter Try.func5, Try.ntmps5
      go_wp2_with (first
        | (go_at_call 8; (with_reducible refine (awake5_any _).mono ?_); rintro e w' ⟨rfl, rfl⟩)
        | (go_at_call 11; (with_reducible refine (H1 _).mono ?_); clear H1; rintro e w' ⟨rfl, rfl⟩)
        | (go_at_call 11; (with_reducible refine (H2 _).mono ?_); clear H2; rintro e w' ⟨rfl, rfl⟩)
        | (go_at_call 17; (with_reducible refine (HS3 _).mono ?_); rintro e w1 ⟨k, rfl, hbw⟩)
        | (go_at_call 16; (with_reducible refine (HT _).mono ?_); rintro e w' ⟨rfl, rfl⟩))
      go_ret
      exact ⟨rfl, hbw⟩
    | nil =>
      by_cases hl : ps.length = 2
      · obtain ⟨p, q, rfl⟩ : ∃ p q, ps = [p, q] := by
          match ps, hl with
          | [p, q], _ => exact ⟨p, q, rfl⟩
        have HS3 : ∀ w, Calls Try.prog 17 #[.string (X ++ Y)] w fun e w' => ∃ g c, e = .returned (.tuple #[.slice (some ⟨g, 0, none⟩) 2 c, .int .i64 (-1)]) ∧ Below w.heap.size w w' ∧ w'.cell? ⟨g, 0, none⟩ = some (.int .i64 p) ∧ w'.cell? ⟨g, 1, none⟩ = some (.int .i64 q) := fun w => by
          refine (HS2 w).mono ?_
          rintro e w' ⟨v, k, he, hbw, ⟨_, h2, h3⟩ | ⟨h1, _⟩⟩
          · obtain ⟨g, c, h4, _, h5⟩ := own_cells2 h3 (by simp)
            exact ⟨g, c, by rw [he, h4, h2]; rfl, hbw, h5 0 _ rfl, h5 1 _ rfl⟩
          · simp at h1
        clear HS2 hl
        have htb : tb = (((p : Int) == a) && ((q : Int) == b)) := by
          have := HW.out
          rw [this]; simp
        subst htb
        clear HW
        cases f1 : ((p : Int) == a)
        all_goals cases f2 : ((q : Int) == b)
        all_goals
          rw [f1, f2] at HT
          go_enter Try.func5, Try.ntmps5
          go_wp2_with (first
            | (go_at_call 8; (with_reducible refine (awake5_any _).mono ?_); rintro e w' ⟨rfl, rfl⟩)
            | (go_at_call 11; (with_reducible refine (H1 _).mono ?_); clear H1; rintro e w' ⟨rfl, rfl⟩)
            | (go_at_call 11; (with_reducible refine (H2 _).mono ?_); clear H2; rintro e w' ⟨rfl, rfl⟩)
            | (go_at_call 17; (with_reducible refine (HS3 _).mono ?_); rintro e w1 ⟨g, c, rfl, hbw, hc0, hc1⟩)
            | (go_at_call 16; (with_reducible refine (HT _).mono ?_); rintro e w' ⟨rfl, rfl⟩))
          go_ret
          exact ⟨rfl, hbw⟩
      · have HS3 : ∀ w, Calls Try.prog 17 #[.string (X ++ Y)] w fun e w' => ∃ A c, e = .returned (.tuple #[.slice A ps.length c, .int .i64 (-1)]) ∧ Below w.heap.size w w' := fun w => by
          refine (HS2 w).mono ?_
          rintro e w' ⟨v, k, he, hbw, ⟨_, h2, h3⟩ | ⟨h1, _⟩⟩
          · obtain ⟨A, c, h4⟩ := own_form h3
            exact ⟨A, c, by rw [he, h4, h2], hbw⟩
          · simp at h1
        have htb : tb = false := by
          have := HW.out
          rw [this]
          cases hh : (List.map (fun (n : Nat) => (n : Int)) ps == [a, b])
          · simp
          · exfalso
            have h9 : List.map (fun (n : Nat) => (n : Int)) ps = [a, b] := by simpa using hh
            have := congrArg List.length h9
            simp at this; omega
        subst htb
        clear HW HS2
        generalize ps.length = n at HS3 hl
        have e5 : ((n : Int) == 2) = false := beqF (by omega)
        have e6 : (n == 2) = false := nbeqF hl
        go_enter Try.func5, Try.ntmps5
        go_wp2_with (first
          | (go_at_call 8; (with_reducible refine (awake5_any _).mono ?_); rintro e w' ⟨rfl, rfl⟩)
          | (go_at_call 11; (with_reducible refine (H1 _).mono ?_); clear H1; rintro e w' ⟨rfl, rfl⟩)
          | (go_at_call 11; (with_reducible refine (H2 _).mono ?_); clear H2; rintro e w' ⟨rfl, rfl⟩)
          | (go_at_call 17; (with_reducible refine (HS3 _).mono ?_); rintro e w1 ⟨A, c, rfl, hbw⟩)
          | (go_at_call 16; (with_reducible refine (HT _).mono ?_); rintro e w' ⟨rfl, rfl⟩))
        go_ret
        exact ⟨rfl, hbw⟩
  · have ht : tightB a b = false := tightB_out (by omega)
    rw [ht] at HT
    clear ht
    by_cases h1 : 1 ≤ a ∧ a ≤ 17
    · obtain ⟨e1, e2⟩ := toList_cons (opStr_ne h1)
      obtain ⟨e3, e4⟩ := toList_empty (opStr_nil (a := b) (by omega))
      clear hr h1
      generalize opStr a = X at H1 e1 e2
      generalize opStr b = Y at H2 e3 e4
      go_enter Try.func5, Try.ntmps5
      go_wp2_with (first
        | (go_at_call 8; (with_reducible refine (awake5_any _).mono ?_); rintro e w' ⟨rfl, rfl⟩)
        | (go_at_call 11; (with_reducible refine (H1 _).mono ?_); clear H1; rintro e w' ⟨rfl, rfl⟩)
        | (go_at_call 11; (with_reducible refine (H2 _).mono ?_); clear H2; rintro e w' ⟨rfl, rfl⟩)
        | (go_at_call 16; (with_reducible refine (HT _).mono ?_); rintro e w' ⟨rfl, rfl⟩))
      go_ret
      exact ⟨rfl, blw⟩
    · obtain ⟨e1, e2⟩ := toList_empty (opStr_nil h1)
      clear hr h1
      generalize opStr a = X at H1 e1 e2
      generalize opStr b = Y at H2
      go_enter Try.func5, Try.ntmps5
      go_wp2_with (first
        | (go_at_call 8; (with_reducible refine (awake5_any _).mono ?_); rintro e w' ⟨rfl, rfl⟩)
        | (go_at_call 11; (with_reducible refine (H1 _).mono ?_); clear H1; rintro e w' ⟨rfl, rfl⟩)
        | (go_at_call 11; (with_reducible refine (H2 _).mono ?_); clear H2; rintro e w' ⟨rfl, rfl⟩)
        | (go_at_call 16; (with_reducible refine (HT _).mono ?_); rintro e w' ⟨rfl, rfl⟩))
      go_ret
      exact ⟨rfl, blw⟩
end Go.Proofs.Ytkbdgokmcdopgaa
