/-
  A right tree's text: the document's answer.
-/
import Derived.Test.YtnmaceljkegenaaDoorTd
namespace Go.Proofs.YtnmaceljkegenaaDoor
open Go.RowKit
set_option linter.unusedVariables false
set_option linter.unusedSimpArgs false
set_option maxRecDepth 100000

/-- the end of what is below a node -/
def endOk (l : List Nd) (i e : Int) : Prop := i < e ∧ e ≤ l.length ∧ (∀ k, i < k → k < e → i ≤ (nd l k).up) ∧ (e < l.length → (nd l e).up < i)

theorem end_anc {l : List Nd} (hok : okTo l l.length) (hup : (nd l 0).up = -1) {i e : Int} (h0 : 0 ≤ i) (h1 : i < l.length) (he : endOk l i e) {k : Int} (hk0 : 0 ≤ k) (hk : k < l.length) : i ∈ anc l k ↔ i ≤ k ∧ k < e := by
  obtain ⟨e1, e2, e3, e4⟩ := he
  have hups := hok.ups hup
  constructor
  · intro h
    have := anc_mem hups l.length k i (by omega) hk h
    refine ⟨this.2, ?_⟩
    by_cases c : k < e
    · exact c
    · have h5 := anc_between hok hup l.length k i e (by omega) hk h (by omega) (by omega)
      rw [anc_cons hups (by omega) (by omega)] at h5
      rcases List.mem_cons.1 h5 with h6 | h6
      · omega
      · have := anc_mem hups l.length _ i (by have := hups e (by omega) (by omega); omega) (by have := hups e (by omega) (by omega); omega) h6
        have := e4 (by omega)
        omega
  · have main : ∀ (n : Nat) (k : Int), k < n → i ≤ k → k < e → i ∈ anc l k := by
      intro n
      induction n with
      | zero => intro k a b _; omega
      | succ n ih =>
        intro k a b c
        by_cases e' : k = i
        · subst e'; exact anc_self hups h0 h1
        · have h5 := e3 k (by omega) c
          have h6 := hups k (by omega) (by omega)
          rw [anc_cons hups (by omega) (by omega)]
          exact List.mem_cons_of_mem _ (ih _ (by omega) h5 (by omega))
    intro h
    exact main l.length k (by omega) h.1 h.2

theorem end_is {l : List Nd} (hups : upsOk l l.length) {i : Nat} (hi : i < l.length) : ∃ e : Nat, endOk l i e := by
  have go : ∀ (n k : Nat), l.length - k < n → i < k → k ≤ l.length → (∀ j : Int, (i : Int) < j → j < k → (i : Int) ≤ (nd l j).up) → ∃ e : Nat, endOk l i e := by
    intro n
    induction n with
    | zero => intro k h _ _ _; omega
    | succ n ih =>
      intro k h1 h2 h3 h4
      by_cases c : k = l.length
      · exact ⟨k, by omega, by omega, h4, fun h => by omega⟩
      · by_cases c2 : (nd l (k : Int)).up < i
        · exact ⟨k, by omega, by omega, h4, fun _ => c2⟩
        · refine ih (k + 1) (by omega) (by omega) (by omega) (fun j a b => ?_)
          by_cases e : j = (k : Int)
          · subst e; omega
          · exact h4 j a (by omega)
  exact go (l.length + 1) (i + 1) (by omega) (by omega) (by omega) (fun j a b => by omega)

theorem dep_mono {l : List Nd} {i b u : Int} (h : upsOk l i) (hb : b < i) (hu : u ∈ anc l b) : dep l u ≤ dep l b := by
  have h0 : 0 ≤ b := by
    by_cases hc : b < 0
    · rw [anc_neg hc] at hu; cases hu
    · omega
  have := anc_drop h (b.toNat + 1) b u (by omega) hb
  rw [if_pos hu] at this
  unfold dep
  rw [← this]
  exact (List.dropWhile_sublist _).length_le

theorem dep_lt {l : List Nd} {i b u : Int} (h : upsOk l i) (hb : b < i) (hu : u ∈ anc l b) (hne : u ≠ b) : dep l u < dep l b := by
  obtain ⟨h0, h1, h2⟩ := anc_up h hb hu hne
  have := dep_mono h (show (nd l b).up < i by have := (h b h0 hb).2; omega) h1
  rw [dep_cons h h0 hb]; omega

theorem mid_split (l : List Nd) (a m : Nat) : ∀ n, midT l a (m + (1 + n)) = midT l a m ++ (sepT l (a + m) ++ nodeT (nd l ((a + m : Nat) : Int))) ++ midT l (a + m + 1) n
  | 0 => by simp [midT]
  | n + 1 => by
    rw [show m + (1 + (n + 1)) = (m + (1 + n)) + 1 by omega, midT, mid_split l a m n, midT, show a + (m + (1 + n)) = a + m + 1 + n by omega]
    simp only [List.append_assoc]

theorem mid_len {l : List Nd} (h : Rf l) (a : Nat) : ∀ n, a + n ≤ l.length → (midT l a n).length ≤ 100 * n
  | 0, _ => by simp [midT]
  | n + 1, hn => by
    have h1 := mid_len h a n (by omega)
    have h2 := sepT_len h (show a + n < l.length by omega)
    have h3 := nodeT_len (nd l ((a + n : Nat) : Int))
    rw [midT]
    simp only [List.length_append]; omega

/-- the text of a node and what is below it -/
def subT (l : List Nd) (i e : Nat) : List UInt8 := nodeT (nd l (i : Int)) ++ midT l (i + 1) (e - i - 1) ++ List.replicate (dep l ((e : Int) - 1) - dep l (i : Int)) 41
/-- .. of those ahead of a place, not shut -/
def preT (l : List Nd) (i c : Nat) : List UInt8 := nodeT (nd l (i : Int)) ++ midT l (i + 1) (c - i - 1) ++ List.replicate (dep l ((c : Int) - 1) - dep l (i : Int) - 1) 41

theorem dep_40 {l : List Nd} (h : Rf l) {b : Int} (h0 : -1 ≤ b) (hb : b < l.length) : dep l b ≤ 40 := by
  have := dep_le h.ups (b.toNat + 1) b (by omega) hb h0
  have := h.len
  omega

theorem preT_len {l : List Nd} (h : Rf l) {i c : Nat} (hic : i < c) (hc : c ≤ l.length) : (preT l i c).length ≤ 5000 := by
  have h1 := mid_len h (i + 1) (c - i - 1) (by omega)
  have h2 := nodeT_len (nd l (i : Int))
  have h3 := dep_40 h (b := (c : Int) - 1) (by omega) (by omega)
  have := h.len
  unfold preT
  simp only [List.length_append, List.length_replicate]; omega
theorem subT_len {l : List Nd} (h : Rf l) {i c : Nat} (hic : i < c) (hc : c ≤ l.length) : (subT l i c).length ≤ 5000 := by
  have h1 := mid_len h (i + 1) (c - i - 1) (by omega)
  have h2 := nodeT_len (nd l (i : Int))
  have h3 := dep_40 h (b := (c : Int) - 1) (by omega) (by omega)
  have := h.len
  unfold subT
  simp only [List.length_append, List.length_replicate]; omega

theorem pre_join {l : List Nd} (h : Rf l) {i c c' : Nat} (hic : i < c) (hcc : c < c') (hc' : c' ≤ l.length) (hup : (nd l (c : Int)).up = (i : Int)) (hmem : (c : Int) ∈ anc l ((c' : Int) - 1)) :
    preT l i c ++ [if c = i + 1 then 40 else 32] ++ subT l c c' = preT l i c' := by
  have hdc : dep l (c : Int) = dep l (i : Int) + 1 := by rw [dep_cons h.ups (by omega) (show (c : Int) < l.length by omega), hup]
  have hge := dep_mono h.ups (show (c' : Int) - 1 < l.length by omega) hmem
  have hsep : List.replicate (dep l ((c : Int) - 1) - dep l (i : Int) - 1) 41 ++ [if c = i + 1 then 40 else 32] = sepT l c := by
    unfold sepT
    rw [hup]
    by_cases e : c = i + 1
    · rw [if_pos e, if_pos (by omega), show (c : Int) - 1 = (i : Int) by omega, show dep l (i : Int) - dep l (i : Int) - 1 = 0 by omega]; rfl
    · rw [if_neg e, if_neg (by omega)]
  obtain ⟨m, rfl⟩ : ∃ m, c = i + 1 + m := ⟨c - i - 1, by omega⟩
  obtain ⟨n, rfl⟩ : ∃ n, c' = i + 1 + m + 1 + n := ⟨c' - (i + 1 + m) - 1, by omega⟩
  unfold preT subT
  rw [show i + 1 + m - i - 1 = m by omega, show i + 1 + m + 1 + n - (i + 1 + m) - 1 = n by omega, show i + 1 + m + 1 + n - i - 1 = m + (1 + n) by omega, mid_split, hdc,
    show dep l (((i + 1 + m + 1 + n : Nat) : Int) - 1) - (dep l (i : Int) + 1) = dep l (((i + 1 + m + 1 + n : Nat) : Int) - 1) - dep l (i : Int) - 1 by omega, ← hsep]
  simp only [List.append_assoc]

theorem ltr_sub : ∀ k : Fin 19, sub [63, 80, 76, 65, 73, 83, 88, 87, 82, 66, 85, 70, 72, 79, 67, 84, 78, 69, 77] ((k.val : Nat) : Int) (((k.val : Nat) : Int) + 1) = [ltrs.getD k.val 0] := by decide

theorem kids_loop {l : List Nd} (h : Rf l) {r : Nat} {i e : Nat} (hi : i < l.length) (he : endOk l i e)
    (ih : ∀ c : Nat, i < c → c < l.length → ∃ c' : Nat, endOk l c c' ∧ (fr7 r).q7 l (c : Int) = some (subT l c c', ())) :
    ∀ (N k c n : Nat), l.length - k < N → i < k → k ≤ l.length → i < c → c ≤ e → (k ≤ c ∨ c = e) → (∀ j : Nat, k ≤ j → j < c → (nd l (j : Int)).up ≠ (i : Int)) → (∀ w : Nat, i < w → w < c → (w : Int) ∈ anc l ((c : Int) - 1) → (nd l (w : Int)).up = (i : Int) → c ≤ e → c < e → (nd l (c : Int)).up < w) → (n = 0 ↔ c = i + 1) → n ≤ k →
    ∃ n' : Nat, lp7_4 (fr7 r) N l (i : Int) (preT l i c) (n : Int) (k : Int) = some (.inl ((preT l i e, (n' : Int), ()), ())) ∧ (n' = 0 ↔ e = i + 1)
  | 0, k, c, n, hN, _, _, _, _, _, _, _, _, _ => by omega
  | N + 1, k, c, n, hN, hik, hk, hic, hce, hor, hno, hkid, hn, hnk => by
    rw [lp7_4, st7_4]
    obtain ⟨e1, e2, e3, e4⟩ := id he
    have hlen := h.len
    have hadd : addK .i64 (k : Int) 1 = ((k + 1 : Nat) : Int) := by rw [addK_eq (by omega) (by omega)]; omega
    by_cases ck : k < l.length
    · rw [bif_t (ltI_t (by rw [lenI_eq]; omega)), bif_t (inI_t (by omega) (by omega)), show (getI l (0, (0, (0, (0, ())))) (k : Int)).2.2.2.1 = (nd l (k : Int)).up from rfl]
      by_cases cu : (nd l (k : Int)).up = (i : Int)
      · -- a kid
        have hie : (i : Int) ∈ anc l (k : Int) := by
          rw [anc_cons h.ups (by omega) (show (k : Int) < l.length by omega), cu]
          exact List.mem_cons_of_mem _ (anc_self h.ups (by omega) (by omega))
        have hke : k < e := by
          have := (end_anc h.ok h.up (by omega) (by omega) he (k := (k : Int)) (by omega) (by omega)).1 hie
          omega
        have hkc : k = c := by
          rcases hor with h1 | h1
          · rcases Nat.lt_or_ge k c with h2 | h2
            · exact absurd cu (hno k (Nat.le_refl _) h2)
            · omega
          · rcases Nat.lt_or_ge k c with h2 | h2
            · exact absurd cu (hno k (Nat.le_refl _) h2)
            · omega
        subst hkc
        obtain ⟨c', q1, q2⟩ := ih k hik ck
        obtain ⟨f1, f2, f3, f4⟩ := id q1
        have hmem : (k : Int) ∈ anc l ((c' : Int) - 1) := (end_anc h.ok h.up (by omega) (by omega) q1 (k := (c' : Int) - 1) (by omega) (by omega)).2 ⟨by omega, by omega⟩
        have hc'e : c' ≤ e := by
          rcases Nat.lt_or_ge e c' with h1 | h1
          · have h2 := f3 e (by omega) (by omega)
            have h3 := e4 (by omega)
            omega
          · exact h1
        have hpre := preT_len h hik hk
        have hsub := subT_len h (i := k) (c := c') (by omega) (by omega)
        have hj := pre_join h hik (by omega) (by omega) cu hmem
        rw [bif_t (eqI_t cu), q2]
        have fin := kids_loop h hi he ih N (k + 1) c' (n + 1) (by omega) (by omega) (by omega) (by omega) hc'e (by omega) (fun j a b hj2 => by
          have := f3 j (by omega) (by omega)
          omega) (fun w a b hw1 hw2 _ hlt => by
          have h5 := f4 (by omega)
          have h6 := e3 c' (by omega) (by omega)
          have h7 : (k : Int) ≤ w ∨ (w : Int) < k := by omega
          rcases h7 with h7 | h7
          · omega
          · -- an earlier kid is not above
            have hb := anc_between h.ok h.up l.length ((c' : Int) - 1) (w : Int) (k : Int) (by omega) (by omega) hw1 (by omega) (by omega)
            rw [anc_cons h.ups (by omega) (show (k : Int) < l.length by omega), cu] at hb
            rcases List.mem_cons.1 hb with h8 | h8
            · omega
            · have := anc_mem h.ups (i + 1) (i : Int) (w : Int) (by omega) (by omega) h8
              omega) (by omega) (by omega)
        have hadn : addK .i64 (n : Int) 1 = ((n + 1 : Nat) : Int) := by rw [addK_eq (by omega) (by omega)]; omega
        by_cases cn : n = 0
        · rw [bif_t (eqI_t (by omega)), bif_t (room_l (by rw [List.length_singleton]; omega)), obind_some]
          simp only
          unfold catL
          rw [bif_t (room_l (by rw [List.length_append, List.length_singleton]; omega)), hadd, hadn]
          rw [if_pos (hn.1 cn)] at hj
          rw [hj]
          exact fin
        · rw [bif_f (eqI_f (by omega)), bif_t (room_l (by rw [List.length_singleton]; omega)), obind_some]
          simp only
          unfold catL
          rw [bif_t (room_l (by rw [List.length_append, List.length_singleton]; omega)), hadd, hadn]
          rw [if_neg (fun hh => cn (hn.2 hh))] at hj
          rw [hj]
          exact fin
      · rw [bif_f (eqI_f cu), hadd]
        -- no kid here: where all kids' ends are, one stands
        by_cases hkc : k = c ∧ c < e
        · obtain ⟨rfl, hlt⟩ := hkc
          exfalso
          have h5 := e3 k (by omega) (by omega)
          have hu := h.ok (k : Int) (by omega) (by omega)
          obtain ⟨u0, u1, u2, _⟩ := hu.2.2.2 (by omega)
          by_cases c1 : k = i + 1
          · have := anc_mem h.ups (k + 1) ((k : Int) - 1) (nd l (k : Int)).up (by omega) (by omega) u2
            omega
          · have hm : (i : Int) ∈ anc l ((k : Int) - 1) := (end_anc h.ok h.up (by omega) (by omega) he (k := (k : Int) - 1) (by omega) (by omega)).2 ⟨by omega, by omega⟩
            obtain ⟨w, w1, w2, w3⟩ := anc_kid h.ups (k + 1) ((k : Int) - 1) (i : Int) (by omega) (by omega) hm (by omega)
            have w4 := anc_mem h.ups (k + 1) ((k : Int) - 1) w (by omega) (by omega) w1
            obtain ⟨w', rfl⟩ := Int.eq_ofNat_of_zero_le w4.1
            have h6 := hkid w' (by omega) (by omega) w1 w2 hce hlt
            have hb := anc_between h.ok h.up (k + 1) ((k : Int) - 1) (nd l (k : Int)).up (w' : Int) (by omega) (by omega) u2 (by omega) (by omega)
            rw [anc_cons h.ups (by omega) (show (w' : Int) < l.length by omega), w2] at hb
            rcases List.mem_cons.1 hb with h8 | h8
            · omega
            · have := anc_mem h.ups (i + 1) (i : Int) (nd l (k : Int)).up (by omega) (by omega) h8
              omega
        · exact kids_loop h hi he ih N (k + 1) c n (by omega) (by omega) (by omega) hic hce (by omega) (fun j a b => hno j (by omega) b) hkid hn (by omega)
    · rw [bif_f (ltI_n (by rw [lenI_eq]; omega))]
      have : c = e := by omega
      subst this
      exact ⟨n, rfl, hn⟩
end Go.Proofs.YtnmaceljkegenaaDoor
