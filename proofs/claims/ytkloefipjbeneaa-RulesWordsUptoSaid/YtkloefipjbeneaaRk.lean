/-
  Names and assignments, reserved words: the program and the document say the same.
-/
import Derived.Test.YtkloefipjbeneaaRg
import Derived.Test.YtkloefipjbeneaaRh
namespace Go.Proofs.Ytkloefipjbeneaa
open Go.RowKit
set_option linter.unusedVariables false
set_option linter.unusedSimpArgs false
set_option maxRecDepth 100000

/-! ### letters and digits -/

def isL (c : UInt8) : Bool := (97 ≤ c && c ≤ 122) || (65 ≤ c && c ≤ 90) || c == 95
def isD (c : UInt8) : Bool := 48 ≤ c && c ≤ 57
def isN (c : UInt8) : Bool := isL c || isD c

def classOk : Bool := (List.range 256).all fun b => match fn90 (b : Int), fn92 (b : Int), fn50 (b : Int) with
  | some (x, _), some (y, _), some (k, _) => (x == isL (UInt8.ofNat b)) && ((y == isD (UInt8.ofNat b)) && ((decide (k = 5) == isL (UInt8.ofNat b)) && (decide (k = 6) == isD (UInt8.ofNat b))))
  | _, _, _ => false
theorem class_ok : classOk = true := by kernel_rfl

theorem class_at (c : UInt8) : fn90 (c.toNat : Int) = some (isL c, ()) ∧ fn92 (c.toNat : Int) = some (isD c, ()) ∧ ∃ k, fn50 (c.toNat : Int) = some (k, ()) ∧ eqI k 5 = isL c ∧ eqI k 6 = isD c := by
  have h := List.all_eq_true.1 class_ok c.toNat (List.mem_range.2 (by have := c.toNat_lt; omega))
  have hc : UInt8.ofNat c.toNat = c := by simp
  rw [hc] at h
  split at h
  · rename_i x u y v k w h1 h2 h3
    simp only [Bool.and_eq_true, beq_iff_eq] at h
    obtain ⟨e1, e2, e3, e4⟩ := h
    refine ⟨by rw [h1, e1], by rw [h2, e2], k, h3, ?_, ?_⟩
    · rw [← e3]; simp [eqI]; rfl
    · rw [← e4]; simp [eqI]; rfl
  · cases h

theorem byte_at {s : List UInt8} {i : Nat} (h : i < s.length) : byteAt s (i : Int) = (s[i].toNat : Int) := by
  unfold byteAt
  rw [Int.toNat_natCast, List.getD_eq_getElem?_getD, List.getElem?_eq_getElem h]; rfl

/-- so many of a text's first bytes may stand in a name -/
def runN (s : List UInt8) : Nat := (s.takeWhile isN).length
def runL (s : List UInt8) : Nat := (s.takeWhile isL).length

theorem tw_le (p : UInt8 → Bool) (s : List UInt8) : (s.takeWhile p).length ≤ s.length := by
  induction s with
  | nil => simp
  | cons c v ih => rw [List.takeWhile_cons]; split <;> simp <;> omega

theorem tw_at (p : UInt8 → Bool) : ∀ (s : List UInt8) (i : Nat) (h : i < s.length), i < (s.takeWhile p).length → p s[i] = true
  | [], i, h, _ => by simp at h
  | c :: v, i, h, h2 => by
    rw [List.takeWhile_cons] at h2
    split at h2
    · rename_i hc
      match i with
      | 0 => exact hc
      | i + 1 => exact tw_at p v i (by simpa using h) (by simpa using h2)
    · simp at h2

theorem tw_end (p : UInt8 → Bool) : ∀ (s : List UInt8) (h : (s.takeWhile p).length < s.length), p s[(s.takeWhile p).length] = false
  | [], h => by simp at h
  | c :: v, h => by
    by_cases hc : p c = true
    · have e : List.takeWhile p (c :: v) = c :: v.takeWhile p := by rw [List.takeWhile_cons, if_pos hc]
      have h' : (v.takeWhile p).length < v.length := by rw [e] at h; simpa using h
      have := tw_end p v h'
      simp only [e, List.length_cons, List.getElem_cons_succ]
      exact this
    · have e : List.takeWhile p (c :: v) = [] := by rw [List.takeWhile_cons, if_neg hc]
      simp only [e, List.length_nil, List.getElem_cons_zero]
      simpa using hc

/-- bytes of a kind up to a place, and none there -/
theorem tw_is (p : UInt8 → Bool) (s : List UInt8) (n : Nat) (hn : n ≤ s.length) (h1 : ∀ i (h : i < s.length), i < n → p s[i] = true) (h2 : ∀ h : n < s.length, p s[n] = false) : (s.takeWhile p).length = n := by
  have a := tw_le p s
  by_cases c : (s.takeWhile p).length < n
  · have := tw_end p s (by omega)
    rw [h1 _ (by omega) c] at this; cases this
  · by_cases d : n < (s.takeWhile p).length
    · have e := tw_at p s n (by omega) d
      rw [h2 (by omega)] at e; cases e
    · omega

/-- how long the name is with which a text begins -/
def nl (s : List UInt8) : Nat := if runL s = 0 then 0 else runN s

theorem runN_pos {s : List UInt8} (h : runL s ≠ 0) : runN s ≠ 0 := by
  unfold runL at h; unfold runN
  match s with
  | [] => simp at h
  | c :: v =>
    rw [List.takeWhile_cons] at h ⊢
    split at h
    · rename_i hc
      rw [if_pos (by simp [isN, hc])]; simp
    · simp at h

theorem loopL {s : List UInt8} (hs : s.length < 1000000) (a : List UInt8) (b c : Int) (d : List UInt8) (e : Int) : ∀ (N k : Nat), s.length - k < N → k ≤ runL s →
    lp78_89_4v1 N s 0 (k : Int) a b c d e = some (.inl ((((runL s : Nat) : Int), ()), ((a, b, c, d, e, ()), (), ()), ()))
  | 0, k, h, _ => by omega
  | N + 1, k, h, hk => by
    have hle := tw_le isL s
    have e0 : addK .i64 0 (k : Int) = (k : Int) := by rw [addK_eq (by omega) (by unfold runL at hk; omega)]; omega
    rw [lp78_89_4v1, st78_89_4v1, e0]
    by_cases h1 : k < s.length
    · rw [bif_t (ltI_t (by rw [lenI_eq]; omega)), bif_t (inI_t (by omega) (by omega)), byte_at h1, (class_at _).1, obind_some]
      by_cases h2 : k < runL s
      · rw [tw_at isL s k h1 h2]
        simp only [Bool.not_true, cond_false]
        rw [addK_eq (by omega) (by omega), show (k : Int) + 1 = ((k + 1 : Nat) : Int) by omega]
        exact loopL hs a b c d e N (k + 1) (by omega) (by omega)
      · obtain rfl : k = runL s := by omega
        have := tw_end isL s h1
        rw [show isL s[runL s] = false from this]
        rfl
    · obtain rfl : k = runL s := by unfold runL at hk ⊢; omega
      rw [bif_f (ltI_n (by rw [lenI_eq]; omega))]

theorem loopN {s : List UInt8} (hs : s.length < 1000000) (a : List UInt8) (b c : Int) (d : List UInt8) (e f : Int) (g : Bool) (u : List UInt8) (w : Int) : ∀ (N k : Nat), s.length - k < N → k ≤ runN s →
    lp78_89_4 N s 0 (k : Int) a b c d e f g u w = some (.inl ((((runN s : Nat) : Int), ()), ((a, b, c, d, e, f, g, u, w, ()), (), ()), ()))
  | 0, k, h, _ => by omega
  | N + 1, k, h, hk => by
    have hle := tw_le isN s
    have e0 : addK .i64 0 (k : Int) = (k : Int) := by rw [addK_eq (by omega) (by unfold runN at hk; omega)]; omega
    rw [lp78_89_4, st78_89_4, e0]
    by_cases h1 : k < s.length
    · have ea : addK .i64 (k : Int) 1 = ((k + 1 : Nat) : Int) := by rw [addK_eq (by omega) (by omega)]; rfl
      rw [bif_t (ltI_t (by rw [lenI_eq]; omega)), bif_t (inI_t (by omega) (by omega)), byte_at h1, (class_at _).1, obind_some, (class_at _).2.1]
      by_cases h2 : k < runN s
      · have ih := loopN hs a b c d e f g u w N (k + 1) (by omega) (by omega)
        have hn := tw_at isN s k h1 h2
        rw [ea]
        cases hL : isL s[k] with
        | true => exact ih
        | false =>
          have hD : isD s[k] = true := by simpa [isN, hL] using hn
          simp only [cond_false]
          rw [obind_some, hD]
          exact ih
      · obtain rfl : k = runN s := by omega
        have := tw_end isN s h1
        have h3 : isN s[runN s] = false := this
        simp only [isN, Bool.or_eq_false_iff] at h3
        rw [h3.1]
        simp only [cond_false]
        rw [obind_some, h3.2]
        rfl
    · obtain rfl : k = runN s := by unfold runN at hk ⊢; omega
      rw [bif_f (ltI_n (by rw [lenI_eq]; omega))]

theorem name_len {s : List UInt8} (hs : s.length < 1000000) : fn78 s 0 = some (((nl s : Nat) : Int), ()) := by
  rw [fn78, bif_f (ltI_n (by omega))]
  by_cases h0 : s = []
  · subst h0; rfl
  have hp : 0 < s.length := List.length_pos_iff.2 h0
  rw [bif_f (leI_n (by rw [lenI_eq]; omega)), show lp78_89_4v1 fuelN s 0 0 s 0 0 s 0 = _ from loopL hs s 0 0 s 0 fuelN 0 (big_fuel (by omega)) (by omega), obind_some]
  unfold osum
  simp only
  unfold nl
  by_cases h1 : runL s = 0
  · rw [if_pos h1, h1]; rfl
  · rw [if_neg h1, bif_f (eqI_f (by omega)), bif_f (ltI_n (by omega)), bif_f (leI_n (by rw [lenI_eq]; omega)), show lp78_89_4 fuelN s 0 0 _ _ _ _ _ _ _ _ _ = _ from loopN hs _ _ _ _ _ _ _ _ _ fuelN 0 (big_fuel (by omega)) (by omega)]
    rfl

/-! ### IsName -/

theorem isname_loop {s : List UInt8} (hs : s.length < 1000000) : ∀ (N k : Nat), s.length - k < N → k ≤ runN s →
    lp35_4 N s (k : Int) = some (if runN s = s.length then .inl ((), ()) else .inr ((false, ()), ()))
  | 0, k, h, _ => by omega
  | N + 1, k, h, hk => by
    have hle := tw_le isN s
    have hrn : runN s ≤ s.length := hle
    rw [lp35_4, st35_4]
    by_cases h1 : k < s.length
    · have ea : addK .i64 (k : Int) 1 = ((k + 1 : Nat) : Int) := by rw [addK_eq (by omega) (by omega)]; rfl
      obtain ⟨_, _, c, hc1, hc2, hc3⟩ := class_at s[k]
      have hin : inI s (k : Int) = true := inI_t (by omega) (by omega)
      rw [bif_t (ltI_t (by rw [lenI_eq]; omega)), bif_t (inI_t (by omega) (by omega)), byte_at h1, hc1, obind_some, obind_some]
      simp only
      rw [hc2, hc3, ea]
      by_cases h2 : k < runN s
      · have ih := isname_loop hs N (k + 1) (by omega) (by omega)
        have hn := tw_at isN s k h1 h2
        cases hL : isL s[k] with
        | true => exact ih
        | false =>
          have hD : isD s[k] = true := by simpa [isN, hL] using hn
          rw [hD]
          simp only [Bool.not_false, Bool.not_true, cond_true, cond_false, hin]
          exact ih
      · obtain rfl : k = runN s := by omega
        have h3 : isN s[runN s] = false := tw_end isN s h1
        simp only [isN, Bool.or_eq_false_iff] at h3
        rw [h3.1, h3.2, if_neg (by omega)]
        simp only [Bool.not_false, cond_true, hin]
    · rw [bif_f (ltI_n (by rw [lenI_eq]; omega)), if_pos (by omega)]

theorem head_L {s : List UInt8} (h0 : s ≠ []) : runL s = 0 ↔ isL (s.headD 0) = false := by
  match s with
  | c :: v =>
    unfold runL
    rw [List.takeWhile_cons]
    cases h : isL c <;> simp [h]

theorem isname_ref {s : List UInt8} (hs : s.length < 1000000) : fn35 s = some (decide (nl s ≠ 0 ∧ nl s = s.length), ()) := by
  rw [fn35]
  by_cases h0 : s = []
  · subst h0; rfl
  have hp : 0 < s.length := List.length_pos_iff.2 h0
  obtain ⟨_, _, c, hc1, hc2, hc3⟩ := class_at s[0]
  have hb : byteAt s 0 = (s[0].toNat : Int) := byte_at (i := 0) hp
  have hh : s.headD 0 = s[0] := by
    match s, h0 with
    | c :: v, _ => rfl
  rw [bif_f (eqI_f (by rw [lenI_eq]; omega)), bif_t (inI_t (by omega) (by omega)), hb, hc1, obind_some]
  simp only
  rw [hc2]
  unfold nl
  cases hL : isL s[0] with
  | false =>
    rw [if_pos ((head_L h0).2 (by rw [hh]; exact hL))]
    simp
  | true =>
    have h1 : runL s ≠ 0 := fun h => by have := (head_L h0).1 h; rw [hh, hL] at this; cases this
    have h2 := runN_pos h1
    simp only [Bool.not_true, cond_false]
    rw [if_neg h1, show lp35_4 fuelN s 1 = _ from isname_loop hs fuelN 1 (big_fuel (by omega)) (by omega)]
    by_cases h3 : runN s = s.length
    · rw [if_pos h3, decide_eq_true ⟨h2, h3⟩]; rfl
    · rw [if_neg h3, decide_eq_false (fun h => h3 h.2)]; rfl

theorem isname_prog {s : List UInt8} (hs : s.length < 1000000) : fn74 s = some (decide (nl s ≠ 0 ∧ nl s = s.length), ()) := by
  rw [fn74]
  by_cases h0 : s = []
  · subst h0; rfl
  have hp : 0 < s.length := List.length_pos_iff.2 h0
  rw [eqS_f h0]
  simp only [Bool.not_false, cond_true]
  rw [name_len hs, obind_some]
  congr 2
  by_cases h : nl s = s.length
  · rw [eqI_t (by rw [lenI_eq]; omega), decide_eq_true ⟨by omega, h⟩]
  · rw [eqI_f (by rw [lenI_eq]; omega), decide_eq_false (fun h' => h h'.2)]

/-! ### Assign -/

/-- does a text begin with a name and an = ? -/
def asg (s : List UInt8) : Bool := decide (nl s ≠ 0 ∧ nl s < s.length) && decide (s.getD (nl s) 0 = 61)

theorem assign_prog {s : List UInt8} (hs : s.length < 1000000) : ∃ x y, fn61 s = some (x, (y, (asg s, ()))) := by
  have hle : nl s ≤ s.length := by unfold nl; split; omega; exact tw_le isN s
  rw [fn61, name_len hs, obind_some]
  simp only
  by_cases h0 : nl s = 0
  · exact ⟨[], [], by rw [bif_t (eqI_t (by omega)), asg, decide_eq_false (fun h => h.1 h0)]; rfl⟩
  rw [bif_f (eqI_f (by omega))]
  by_cases h1 : nl s = s.length
  · exact ⟨[], [], by rw [bif_t (eqI_t (by rw [lenI_eq]; omega)), asg, decide_eq_false (fun h => by omega)]; rfl⟩
  have h2 : nl s < s.length := by omega
  rw [bif_f (eqI_f (by rw [lenI_eq]; omega)), bif_t (inI_t (by omega) (by omega)), byte_at h2]
  have hg : s.getD (nl s) 0 = s[nl s] := by rw [List.getD_eq_getElem?_getD, List.getElem?_eq_getElem h2]; rfl
  by_cases h3 : s[nl s] = 61
  · rw [h3, show eqI ((61 : UInt8).toNat : Int) 61 = true from rfl]
    simp only [Bool.not_true, cond_false]
    rw [addK_eq (by omega) (by omega), bif_t (partI_t (by omega) (by omega) (by rw [lenI_eq]; omega)), bif_t (partI_t (by omega) (by rw [lenI_eq]; omega) (by omega))]
    exact ⟨_, _, by rw [asg, decide_eq_true ⟨h0, h2⟩, hg, decide_eq_true h3]; rfl⟩
  · rw [eqI_f (fun h => h3 (UInt8.toNat_inj.1 (by have : ((61 : UInt8).toNat : Int) = 61 := rfl; omega)))]
    exact ⟨[], [], by rw [asg, hg, decide_eq_false h3, Bool.and_false]; rfl⟩

theorem sub_take (s : List UInt8) (i : Nat) : sub s 0 (i : Int) = s.take i := by simp [sub]

/-- the name ahead of a place -/
theorem nl_take {s : List UInt8} {i : Nat} (hi : i < s.length) (h61 : s[i] = 61) : (nl (s.take i) ≠ 0 ∧ nl (s.take i) = (s.take i).length) ↔ (nl s ≠ 0 ∧ nl s = i) := by
  have hN : isN (61 : UInt8) = false := by decide
  have hL : isL (61 : UInt8) = false := by decide
  have len : (s.take i).length = i := by simp; omega
  have cut : ∀ p : UInt8 → Bool, p 61 = false → (((s.take i).takeWhile p).length = i ↔ (s.takeWhile p).length = i) ∧ ((((s.take i).takeWhile p).length = 0) ↔ ((s.takeWhile p).length = 0)) := by
    intro p hp
    have hle : (s.takeWhile p).length ≤ i := by
      by_cases c : (s.takeWhile p).length ≤ i
      · exact c
      · have := tw_at p s i hi (by omega)
        rw [h61, hp] at this; cases this
    have e : ((s.take i).takeWhile p).length = (s.takeWhile p).length := by
      refine tw_is p _ _ (by omega) (fun j hj h => ?_) fun h => ?_
      · rw [List.getElem_take]
        exact tw_at p s j (by omega) h
      · rw [List.getElem_take]
        exact tw_end p s (by omega)
    rw [e]
    exact ⟨Iff.rfl, Iff.rfl⟩
  have c1 := cut isN hN
  have c2 := cut isL hL
  unfold nl runL runN
  rw [len]
  by_cases h : (s.takeWhile isL).length = 0
  · rw [if_pos h, if_pos (c2.2.2 h)]
  · rw [if_neg h, if_neg (fun h' => h (c2.2.1 h'))]
    constructor
    · rintro ⟨a, b⟩; exact ⟨fun h' => a (c1.2.2 h'), c1.1.1 b⟩
    · rintro ⟨a, b⟩; exact ⟨fun h' => a (c1.2.1 h'), c1.1.2 b⟩

theorem assign_loop {s : List UInt8} (hs : s.length < 1000000) : ∀ (N k : Nat), s.length - k < N → 1 ≤ k → k ≤ s.length → (asg s = true → k ≤ nl s) →
    ∃ r, lp20_2 N s (k : Int) = some r ∧ (asg s = true → ∃ n : Nat, r = .inr (((n : Int), ()), ()) ∧ 0 < n) ∧ (asg s = false → r = .inl ((), ()))
  | 0, k, h, _, _, _ => by omega
  | N + 1, k, h, hk1, hk, ha => by
    rw [lp20_2, st20_2]
    by_cases h1 : k < s.length
    · have ea : addK .i64 (k : Int) 1 = ((k + 1 : Nat) : Int) := by rw [addK_eq (by omega) (by omega)]; rfl
      rw [bif_t (ltI_t (by rw [lenI_eq]; omega)), bif_t (inI_t (by omega) (by omega)), byte_at h1, ea]
      have hg : s.getD k 0 = s[k] := by rw [List.getD_eq_getElem?_getD, List.getElem?_eq_getElem h1]; rfl
      by_cases h2 : s[k] = 61
      · rw [h2, show eqI ((61 : UInt8).toNat : Int) 61 = true from rfl]
        simp only [cond_true]
        rw [bif_t (partI_t (by omega) (by omega) (by rw [lenI_eq]; omega)), sub_take, isname_ref (by simp; omega), obind_some]
        simp only
        have hn := nl_take h1 h2
        by_cases h3 : nl s ≠ 0 ∧ nl s = k
        · rw [decide_eq_true (hn.2 h3)]
          refine ⟨_, rfl, fun _ => ⟨k, rfl, by omega⟩, fun hf => ?_⟩
          have : asg s = true := by rw [asg, decide_eq_true ⟨h3.1, by omega⟩, h3.2, hg, decide_eq_true h2]; rfl
          rw [this] at hf; cases hf
        · rw [decide_eq_false (fun h' => h3 (hn.1 h'))]
          refine assign_loop hs N (k + 1) (by omega) (by omega) (by omega) fun h' => ?_
          have h4 := ha h'
          unfold asg at h'
          simp only [Bool.and_eq_true, decide_eq_true_eq] at h'
          omega
      · rw [eqI_f (fun h => h2 (UInt8.toNat_inj.1 (by have : ((61 : UInt8).toNat : Int) = 61 := rfl; omega)))]
        refine assign_loop hs N (k + 1) (by omega) (by omega) (by omega) fun h' => ?_
        have h4 := ha h'
        unfold asg at h'
        simp only [Bool.and_eq_true, decide_eq_true_eq] at h'
        by_cases e : k = nl s
        · subst e; rw [hg] at h'; exact absurd h'.2 h2
        · omega
    · rw [bif_f (ltI_n (by rw [lenI_eq]; omega))]
      refine ⟨_, rfl, fun h' => ?_, fun _ => rfl⟩
      have h4 := ha h'
      unfold asg at h'
      simp only [Bool.and_eq_true, decide_eq_true_eq] at h'
      omega

theorem assign_ref {s : List UInt8} (hs : s.length < 1000000) : ∃ n : Int, fn20 s = some (n, ()) ∧ ltI 0 n = asg s ∧ eqI n 0 = !asg s := by
  rw [fn20]
  by_cases h0 : s = []
  · subst h0; exact ⟨0, rfl, rfl, rfl⟩
  have hp : 0 < s.length := List.length_pos_iff.2 h0
  obtain ⟨r, h1, h2, h3⟩ := assign_loop hs fuelN 1 (big_fuel (by omega)) (by omega) (by omega) (fun h => by
    unfold asg at h
    simp only [Bool.and_eq_true, decide_eq_true_eq] at h
    omega)
  rw [show lp20_2 fuelN s 1 = _ from h1]
  cases ha : asg s with
  | true =>
    obtain ⟨n, e, hn⟩ := h2 ha
    subst e
    exact ⟨n, rfl, ltI_t (by omega), eqI_f (by omega)⟩
  | false =>
    have e := h3 ha
    subst e
    exact ⟨0, rfl, rfl, rfl⟩

/-! ### reserved words -/

theorem res_ref {x : List UInt8} (hx : x.length ≤ 60) : fn19 x = some (resW.contains x, ()) := by
  cases h : resW.contains x with
  | false => exact res_not x hx h
  | true =>
    rcases mem_res h with h | h | h | h | h | h | h | h | h | h | h | h | h | h | h | h <;> subst h <;> kernel_rfl

theorem res_prog (x : List UInt8) : fn75 x = some (resW.contains x, ()) := by
  cases h : resW.contains x with
  | true =>
    rcases mem_res h with h | h | h | h | h | h | h | h | h | h | h | h | h | h | h | h <;> subst h <;> rfl
  | false =>
    have ne : ∀ y, resW.contains y = true → x ≠ y := fun y hy e => by rw [e, hy] at h; cases h
    rw [fn75]
    simp only [eqS_f (ne [33] rfl), eqS_f (ne [123] rfl), eqS_f (ne [125] rfl), eqS_f (ne [99, 97, 115, 101] rfl), eqS_f (ne [100, 111] rfl), eqS_f (ne [100, 111, 110, 101] rfl), eqS_f (ne [101, 108, 105, 102] rfl), eqS_f (ne [101, 108, 115, 101] rfl), eqS_f (ne [101, 115, 97, 99] rfl), eqS_f (ne [102, 105] rfl), eqS_f (ne [102, 111, 114] rfl), eqS_f (ne [105, 102] rfl), eqS_f (ne [105, 110] rfl), eqS_f (ne [116, 104, 101, 110] rfl), eqS_f (ne [117, 110, 116, 105, 108] rfl), eqS_f (ne [119, 104, 105, 108, 101] rfl), cond_false]
    rfl
end Go.Proofs.Ytkloefipjbeneaa
