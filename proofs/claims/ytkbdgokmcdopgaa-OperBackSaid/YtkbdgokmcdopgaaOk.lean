/-
  oper.Write: its contract.
-/
import Derived.Test.YtkbdgokmcdopgaaOg
import Derived.Test.YtkbdgokmcdopgaaMb
namespace Go.Proofs.Ytkbdgokmcdopgaa
open Go.RowKit
set_option linter.unusedVariables false
set_option linter.unusedSimpArgs false

/-- what stands between two operators -/
def sepW (a b : Int) : List UInt8 := if tightB a b then [] else [32]

/-- the text of the first k operators -/
def wrK (xs : List Int) : Nat → List UInt8
  | 0 => []
  | k + 1 => wrK xs k ++ (if 0 < k then sepW (xs.getD (k - 1) 0) (xs.getD k 0) else []) ++ opText (xs.getD k 0)

theorem opText_len3 (op : Int) : (opText op).length ≤ 3 := opStr_size op

theorem wrK_len (xs : List Int) (k : Nat) : (wrK xs k).length ≤ 4 * k := by
  induction k with
  | zero => simp [wrK]
  | succ k ih =>
    have h1 := opText_len3 (xs.getD k 0)
    have h2 : (if 0 < k then sepW (xs.getD (k - 1) 0) (xs.getD k 0) else []).length ≤ 1 := by
      split
      · unfold sepW; split <;> simp
      · simp
    simp only [wrK, List.length_append]; omega

theorem u8_info : (Try.prog.info? 5).map (fun i => (i.zero, i.size, i.bytes)) = some (some (.int .u8 0), 1, 1) := by kernel_rfl

theorem own_bsnoc {w : World} {B : Nat} {e : TypeId} {v : Value} {l : List UInt8} {b : UInt8} (h : w.ownsRow B e 1 v (l.length + 1) (bcells l ++ [.int .u8 b.toNat])) : w.ownsRow B e 1 v (l ++ [b]).length (bcells (l ++ [b])) := by
  rw [List.length_append, bcells_append]; exact h

def WritePost (xs : List Int) (w : World) (e : Ending) (w' : World) : Prop :=
  Below w.heap.size w w' ∧ ((∀ x ∈ xs, opText x ≠ []) ∧ e = .returned (.tuple #[.string ⟨(wrK xs xs.length).toArray⟩, .int .i64 0]) ∨ (¬ ∀ x ∈ xs, opText x ≠ []) ∧ e = .returned (.tuple #[.string ⟨#[]⟩, .int .i64 8]))

set_option maxHeartbeats 2000000 in
theorem write_any (xs : List Int) (A : Option Addr) (c : Nat) (w : World) (hn : xs.length ≤ 1000) (hx : ∀ x ∈ xs, I64 x) (hr : ReadsI w w.heap.size A xs) :
    Calls Try.prog 19 #[.slice A xs.length c] w (WritePost xs w) := by
  obtain ⟨i0, hi, hz0, hz1, hz2⟩ := info_parts u8_info
  obtain ⟨B, hB⟩ : ∃ B, B = w.heap.size := ⟨_, rfl⟩
  have HBB := hid hB
  have hBl : B ≤ w.heap.size := by omega
  have hbw : Below B w w := Below.refl _ _
  rw [← hB] at hr
  clear hB
  have HXS := hid hx
  clear hx
  go_enter Try.func19, Try.ntmps19
  go_wp2
  go_loopw [4, 10] (fun v i wr => ∃ k : Nat, k ≤ xs.length ∧ i = .int .i64 k ∧ wr.ownsRow B 5 1 v (wrK xs k).length (bcells (wrK xs k)) ∧ Below B w wr ∧ ∀ j, j < k → opText (xs.getD j 0) ≠ []) (fun _ i _ => xs.length - (intOf i).toNat)
  case atStart => exact ⟨0, by omega, rfl, World.ownsRow_nil _ _ _ _, hbw, fun j hj => by omega⟩
  case round =>
    obtain ⟨k, hk, rfl, hown, hbr, hne⟩ := hrel
    have HN := hid hne
    clear hne hbw
    have hBr : B ≤ wr.heap.size := Nat.le_trans hBl hbr.size
    have hwl := wrK_len xs k
    by_cases hlt : k < xs.length
    · have hrk := hr.below hbr
      obtain ⟨b, off, rfl, hbB, hc⟩ := hrk k hlt
      have HG : Hid (xs.getD k 0 = xs[k]) := by show _ = _; simp [hlt]
      have HI : I64 xs[k] := HXS.out _ (List.getElem_mem _)
      have HI2 := HI
      unfold I64 at HI2
      have hT := text_any xs[k] wr HI
      have HWK : Hid (wrK xs (k + 1) = wrK xs k ++ (if 0 < k then sepW (xs.getD (k - 1) 0) xs[k] else []) ++ (opStr xs[k]).data.toList) := by
        show wrK xs k ++ (if 0 < k then sepW (xs.getD (k - 1) 0) (xs.getD k 0) else []) ++ opText (xs.getD k 0) = _
        rw [HG.out]; rfl
      have hs3 := opStr_size xs[k]
      have HO : Hid (opText xs[k] = (opStr xs[k]).data.toList) := rfl
      by_cases h0 : (opStr xs[k]).data.toList = []
      · obtain ⟨e1, e2⟩ := toList_empty h0
        have HR : Hid (¬ ∀ x ∈ xs, opText x ≠ []) := by
          intro hh
          exact hh _ (List.getElem_mem hlt) (HO.out.trans h0)
        clear h0
        generalize opStr xs[k] = T at hT HWK hs3 HO e1 e2
        generalize xs[k] = x at hc hT HI2 HWK HO
        go_wp2_with (go_at_call 13; (with_reducible refine hT.mono ?_); rintro e w' ⟨rfl, rfl⟩)
        go_ret2
        exact ⟨by rw [← HBB.out]; exact hbr, .inr ⟨HR.out, rfl⟩⟩
      · obtain ⟨e1, e2⟩ := toList_cons h0
        have HNE : Hid (∀ j, j < k + 1 → opText (xs.getD j 0) ≠ []) := by
          intro j hj
          by_cases e : j = k
          · subst e; rw [HG.out, HO.out]; exact h0
          · exact HN.out j (by omega)
        clear h0
        by_cases hk0 : k = 0
        · subst hk0
          have HW2 : Hid (wrK xs (0 + 1) = wrK xs 0 ++ (opStr xs[0]).data.toList) := by show _ = _; rw [HWK.out]; simp
          clear HWK
          generalize opStr xs[0] = T at hT HW2 hs3 HO e1 e2
          generalize xs[0] = x at hc hT HI2 HO
          have hc0 : wr.cell? ⟨b, off, none⟩ = some (.int .i64 x) := hc
          clear hc
          go_wp2_with (first
            | (go_at_call 13; (with_reducible refine hT.mono ?_); rintro e w' ⟨rfl, rfl⟩)
            | (at_builtin; refine wpl_appS rfl _ _ _ _ rfl Try.underlying46 Try.underlying9 hi hz0 hz1 hz2 rfl hown hbr hBr T rfl (by omega) ?_; intro v1 w1 hown1 hb1 hg1))
          go_roundw
          case rel => exact ⟨0 + 1, by omega, by go_num, by rw [HW2.out]; exact hown1, hb1, HNE.out⟩
          case measure => simp [intOf]; omega
        · have hp : (0 : Int) < (k : Int) := by omega
          obtain ⟨b', off', hA, hbB', hc'⟩ := (hr.below hbr) (k - 1) (by omega)
          injection hA with hA
          injection hA with hA1 hA2
          subst hA1 hA2
          have HG' : Hid (xs.getD (k - 1) 0 = xs[k - 1]) := by show _ = _; simp [show k - 1 < xs.length by omega]
          have HJ : I64 xs[k - 1] := HXS.out _ (List.getElem_mem _)
          have hTi := tight_any xs[k - 1] xs[k] wr HJ HI
          unfold I64 at HJ
          have HW2 : Hid (wrK xs (k + 1) = wrK xs k ++ (if tightB xs[k - 1] xs[k] then [] else [32]) ++ (opStr xs[k]).data.toList) := by
            show _ = _; rw [HWK.out, if_pos (by omega), HG'.out]; rfl
          clear HWK
          generalize opStr xs[k] = T at hT HW2 hs3 HO e1 e2
          generalize xs[k] = x at hc hT HI2 HW2 HO hTi
          generalize xs[k - 1] = y at hc' HJ HW2 hTi
          cases htb : tightB y x
          · rw [htb] at hTi HW2
            clear htb
            go_wp2_with (first
              | (go_at_call 13; (with_reducible refine hT.mono ?_); rintro e w' ⟨rfl, rfl⟩)
              | (go_at_call 16; (with_reducible refine hTi.mono ?_); rintro e w' ⟨rfl, rfl⟩)
              | (at_builtin; refine wpl_app1 rfl _ _ _ rfl Try.underlying46 hi hz0 hz1 hz2 rfl (by decide) rfl hown hbr hBr [.int .u8 32] rfl rfl (by simp [Value.oneCell']) (by simp only [maxLen]; omega) (by omega) ?_; intro v1 w1 hown1 hb1 hg1; have hown2 := own_bsnoc (b := 32) hown1; clear hown1; have hB1 : B ≤ w1.heap.size := Nat.le_trans hBl hb1.size)
              | (at_builtin; refine wpl_appS rfl _ _ _ _ rfl Try.underlying46 Try.underlying9 hi hz0 hz1 hz2 rfl hown2 hb1 hB1 T rfl (by simp only [List.length_append, List.length_cons, List.length_nil]; omega) ?_; intro v2 w2 hown3 hb2 hg2))
            go_roundw
            case rel => exact ⟨k + 1, by omega, by go_num, by rw [HW2.out]; exact hown3, hb2, HNE.out⟩
            case measure => simp [intOf]; omega
          · rw [htb] at hTi HW2
            clear htb
            go_wp2_with (first
              | (go_at_call 13; (with_reducible refine hT.mono ?_); rintro e w' ⟨rfl, rfl⟩)
              | (go_at_call 16; (with_reducible refine hTi.mono ?_); rintro e w' ⟨rfl, rfl⟩)
              | (at_builtin; refine wpl_appS rfl _ _ _ _ rfl Try.underlying46 Try.underlying9 hi hz0 hz1 hz2 rfl hown hbr hBr T rfl (by omega) ?_; intro v1 w1 hown1 hb1 hg1))
            go_roundw
            case rel => exact ⟨k + 1, by omega, by go_num, by rw [HW2.out]; simpa using hown1, hb1, HNE.out⟩
            case measure => simp [intOf]; omega
    · obtain ⟨A', c', rfl⟩ := own_form hown
      have hcv := conv_own 46 9 5 Try.underlying46 Try.underlying5 Try.underlying9 hown
      obtain rfl : k = xs.length := by omega
      go_wp2
      go_ret2
      refine ⟨by rw [← HBB.out]; exact hbr, .inl ⟨fun x hx => ?_, rfl⟩⟩
      obtain ⟨j, hj, rfl⟩ := List.getElem_of_mem hx
      have := HN.out j hj
      simpa [hj] using this
end Go.Proofs.Ytkbdgokmcdopgaa
