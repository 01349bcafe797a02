/-
  Numbers as texts, written and read.
-/
import Derived.Test.YtnmaceljkegenaaDoorTa
namespace Go.Proofs.YtnmaceljkegenaaDoor
open Go.RowKit
set_option linter.unusedVariables false
set_option linter.unusedSimpArgs false
set_option maxRecDepth 100000

theorem room_l {a b : List UInt8} (h : a.length + b.length ≤ 140737488355328) : roomS a b = true := by
  unfold roomS roomN; simpa using h
theorem fit_l {α : Type} {l : List α} {k : Nat} (h : l.length * k ≤ 140737488355328) : fitI l k = true := by
  unfold fitI roomN; simpa using h
theorem toB_len (t : List UInt8) : (toBytes t).length = t.length := by simp [toBytes]
theorem ofB_to (t : List UInt8) : ofBytes (toBytes t) = t := by simp [ofBytes, toBytes, Function.comp_def]
theorem toB_app (a b : List UInt8) : catL (toBytes a) (toBytes b) = toBytes (a ++ b) := by simp [catL, toBytes]
theorem fit_b {a : List UInt8} (h : a.length ≤ 140737488355328) : fitI (toBytes a) 1 = true := fit_l (by rw [toB_len]; omega)
theorem eqS_refl (x : List UInt8) : eqS x x = true := by simp [eqS]

/-- a number as a text -/
def numT (v : Int) : List UInt8 := digK 20 v.toNat

theorem digK_len : ∀ (f u : Nat), (digK f u).length ≤ f
  | 0, u => Nat.le_refl _
  | f + 1, u => by
    rw [digK]
    cases Nat.blt u 10 with
    | true => simp
    | false =>
      have := digK_len f (u / 10)
      simp only [cond_false, List.length_append, List.length_singleton]; omega

theorem digK_small {f u : Nat} (h : u < 10) : digK (f + 1) u = [UInt8.ofNat (48 + u)] := by
  rw [digK, show Nat.blt u 10 = true by simpa [Nat.blt_eq] using h]; rfl
theorem digK_big {f u : Nat} (h : 10 ≤ u) : digK (f + 1) u = digK f (u / 10) ++ [UInt8.ofNat (48 + u % 10)] := by
  rw [digK, show Nat.blt u 10 = false from Bool.eq_false_iff.2 (by simpa [Nat.blt_eq] using h)]; rfl

theorem dig_sub : ∀ d : Fin 10, sub [48, 49, 50, 51, 52, 53, 54, 55, 56, 57] ((d.val : Nat) : Int) ((d.val : Nat) + 1 : Int) = [UInt8.ofNat (48 + d.val)] := by decide
theorem dig_sub' {d : Nat} (h : d < 10) : sub [48, 49, 50, 51, 52, 53, 54, 55, 56, 57] (d : Int) ((d : Int) + 1) = [UInt8.ofNat (48 + d)] := dig_sub ⟨d, h⟩
theorem dig_part {d : Nat} (h : d < 10) : partI (lenI ([48, 49, 50, 51, 52, 53, 54, 55, 56, 57] : List Nat)) (d : Int) ((d : Int) + 1) = true := partI_t (by omega) (by omega) (by rw [lenI_eq]; simp only [List.length_cons, List.length_nil]; omega)

theorem digits_loop : ∀ (f N v : Nat) (t : List UInt8), f < N → 0 < f → v < 10 ^ f → v < 9223372036854775808 → t.length + f ≤ 1000 →
    ∃ (v' : Nat) (t' : List UInt8), lp15_2 N (v : Int) t = some (.inl (((v' : Int), t', ()), ())) ∧ v' < 10 ∧ UInt8.ofNat (48 + v') :: t' = digK f v ++ t
  | 0, N, v, t, _, h, _, _, _ => by omega
  | f + 1, 0, v, t, h, _, _, _, _ => by omega
  | f + 1, N + 1, v, t, hN, _, hv, hv2, ht => by
    rw [lp15_2, st15_2]
    by_cases h : v < 10
    · rw [bif_f (ltI_f (by omega)), digK_small h]
      exact ⟨v, t, rfl, h, rfl⟩
    · have hf : 0 < f := by
        rcases Nat.eq_zero_or_pos f with e | e
        · subst e; omega
        · exact e
      have hm : remI (v : Int) 10 = ((v % 10 : Nat) : Int) := by
        unfold remI
        rw [Int.tmod_eq_emod_of_nonneg (by omega)]; omega
      have hd : divK .i64 (v : Int) 10 = ((v / 10 : Nat) : Int) := by
        unfold divK
        rw [Int.tdiv_eq_ediv_of_nonneg (by omega), IntKind.wrap_i64]; omega
      have hlt : v % 10 < 10 := Nat.mod_lt _ (by decide)
      have hadd : addK .i64 ((v % 10 : Nat) : Int) 1 = ((v % 10 : Nat) : Int) + 1 := addK_eq (by omega) (by omega)
      rw [bif_t (ltI_t (by omega)), show (!eqI 10 0) = true from rfl]
      simp only [cond_true]
      rw [hm, hadd, hd, dig_part hlt, cond_true, dig_sub' hlt, room_l (by rw [List.length_singleton]; omega), cond_true]
      obtain ⟨v', t', h1, h2, h3⟩ := digits_loop f N (v / 10) ([UInt8.ofNat (48 + v % 10)] ++ t) (by omega) hf (by rw [Nat.pow_succ] at hv; omega) (by omega) (by simp only [List.length_append, List.length_singleton]; omega)
      refine ⟨v', t', h1, h2, ?_⟩
      rw [h3, digK_big (by omega), List.append_assoc]

theorem numT_len (v : Int) : (numT v).length ≤ 20 := digK_len 20 _

theorem digits_r {v : Int} (h0 : 0 ≤ v) (h1 : v < 9223372036854775808) : fn15 v = some (numT v, ()) := by
  obtain ⟨n, rfl⟩ := Int.eq_ofNat_of_zero_le h0
  obtain ⟨v', t', h2, h3, h4⟩ := digits_loop 20 fuelN n [] (by unfold fuelN; omega) (by omega) (by
    have : (10 : Nat) ^ 20 = 100000000000000000000 := by decide
    omega) (by omega) (by simp)
  rw [fn15, h2, obind_some]
  have hl := digK_len 20 n
  rw [List.append_nil] at h4
  have ht : t'.length ≤ 20 := by
    have := congrArg List.length h4
    simp only [List.length_cons] at this; omega
  have hadd : addK .i64 (v' : Int) 1 = (v' : Int) + 1 := addK_eq (by omega) (by omega)
  simp only [osum]
  rw [hadd, dig_part h3, cond_true, dig_sub' h3, room_l (by rw [List.length_singleton]; omega), cond_true]
  unfold numT catL
  rw [Int.toNat_natCast, ← h4]; rfl

theorem itoa_p {v : Int} (h0 : 0 ≤ v) (h1 : v < 9223372036854775808) : itoaF v = some (numT v, ()) := by
  unfold itoaF itoaK numT
  rw [show (decide (-9223372036854775808 ≤ v) && decide (v ≤ 9223372036854775807)) = true by simp; omega, cond_true, show decide (v < 0) = false by simp; omega, cond_false]

/-! ### read -/
def isDg (b : UInt8) : Prop := 48 ≤ b.toNat ∧ b.toNat ≤ 57
def valD (n : Int) : List UInt8 → Int
  | [] => n
  | b :: l => valD (n * 10 + ((b.toNat : Int) - 48)) l

theorem valD_app (l m : List UInt8) : ∀ n, valD n (l ++ m) = valD (valD n l) m := by
  induction l with
  | nil => intro n; rfl
  | cons b l ih => intro n; exact ih _

theorem dg_nat {d : Nat} (h : d < 10) : (UInt8.ofNat (48 + d)).toNat = 48 + d := by
  rw [UInt8.toNat_ofNat']; omega

theorem digK_dig : ∀ (f u : Nat), ∀ b ∈ digK f u, isDg b
  | 0, u, b, h => by cases h
  | f + 1, u, b, h => by
    by_cases hu : u < 10
    · rw [digK_small hu, List.mem_singleton] at h
      subst h
      unfold isDg
      rw [dg_nat hu]; omega
    · rw [digK_big (by omega), List.mem_append, List.mem_singleton] at h
      rcases h with h | h
      · exact digK_dig f _ b h
      · subst h
        unfold isDg
        have : u % 10 < 10 := Nat.mod_lt _ (by decide)
        rw [dg_nat this]; omega

theorem digK_val : ∀ (f u : Nat), 0 < f → u < 10 ^ f → valD 0 (digK f u) = (u : Int)
  | 0, u, h, _ => by omega
  | f + 1, u, _, h => by
    by_cases hu : u < 10
    · rw [digK_small hu]
      simp only [valD]
      rw [dg_nat hu]; omega
    · have hf : 0 < f := by
        rcases Nat.eq_zero_or_pos f with e | e
        · subst e; omega
        · exact e
      have hm : u % 10 < 10 := Nat.mod_lt _ (by decide)
      rw [digK_big (by omega), valD_app, digK_val f (u / 10) hf (by rw [Nat.pow_succ] at h; omega)]
      simp only [valD]
      rw [dg_nat hm]; omega

theorem digK_head : ∀ (f u : Nat), 0 < u → 0 < f → u < 10 ^ f → ∃ b l, digK f u = b :: l ∧ b.toNat ≠ 48
  | 0, u, _, h, _ => by omega
  | f + 1, u, h0, _, h => by
    by_cases hu : u < 10
    · exact ⟨_, [], digK_small hu, by rw [dg_nat hu]; omega⟩
    · have hf : 0 < f := by
        rcases Nat.eq_zero_or_pos f with e | e
        · subst e; omega
        · exact e
      obtain ⟨b, l, h1, h2⟩ := digK_head f (u / 10) (by omega) hf (by rw [Nat.pow_succ] at h; omega)
      exact ⟨b, l ++ [UInt8.ofNat (48 + u % 10)], by rw [digK_big (by omega), h1]; rfl, h2⟩

theorem byte_drop {s : List UInt8} {e : Nat} {b : UInt8} {r : List UInt8} (h : s.drop e = b :: r) : byteAt s (e : Int) = (b.toNat : Int) ∧ e < s.length ∧ s.drop (e + 1) = r := by
  have hlt : e < s.length := by
    rcases Nat.lt_or_ge e s.length with h1 | h1
    · exact h1
    · rw [List.drop_of_length_le h1] at h; cases h
  rw [List.drop_eq_getElem_cons hlt] at h
  obtain ⟨h1, h2⟩ := List.cons.inj h
  refine ⟨?_, hlt, h2⟩
  unfold byteAt
  rw [Int.toNat_natCast, List.getD_eq_getElem?_getD, List.getElem?_eq_getElem hlt, ← h1]; rfl

theorem dig_step {n : Int} {b : UInt8} (hb : isDg b) (h0 : 0 ≤ n) (h1 : n < 10000000) : addK .i64 (mulK .i64 n 10) (wrapK .i64 (subK .u8 (b.toNat : Int) 48)) = n * 10 + ((b.toNat : Int) - 48) := by
  obtain ⟨h2, h3⟩ := hb
  have e1 : subK .u8 (b.toNat : Int) 48 = (b.toNat : Int) - 48 := by
    unfold subK
    rw [IntKind.wrap_u8]; omega
  have e2 : wrapK .i64 ((b.toNat : Int) - 48) = (b.toNat : Int) - 48 := by
    unfold wrapK
    rw [IntKind.wrap_i64]; omega
  have e3 : mulK .i64 n 10 = n * 10 := by
    unfold mulK
    rw [IntKind.wrap_i64]; omega
  rw [e1, e2, e3, addK_eq (by omega) (by omega)]

/-- nothing more of a number stands there -/
def noDig (s : List UInt8) (e : Nat) : Prop := ∀ b r, s.drop e = b :: r → ¬ isDg b

theorem pow_le6 : ∀ j : Fin 7, (10 : Int) ^ j.val ≤ 1000000 := by decide

theorem num_loop {s : List UInt8} (hs : s.length < 1000000) {a : Nat} {b0 : UInt8} {r0 : List UInt8} (ha : s.drop a = b0 :: r0) (hb0 : b0.toNat ≠ 48) : ∀ (ds : List UInt8) (N j : Nat) (n : Int) (rest : List UInt8), ds.length < N → s.drop (a + j) = ds ++ rest → (∀ b ∈ ds, isDg b) → noDig s (a + j + ds.length) → j + ds.length ≤ 7 → 0 ≤ n → n < 10 ^ j →
    lp22_2 N s (a : Int) n ((a + j : Nat) : Int) = some (.inl (((a : Int), valD n ds, ((a + j + ds.length : Nat) : Int), ()), ()))
  | [], 0, j, n, rest, h, _, _, _, _, _, _ => by simp at h
  | [], N + 1, j, n, rest, _, he, _, hno, h2, _, _ => by
    rw [lp22_2, st22_2]
    rw [List.length_nil, Nat.add_zero] at hno ⊢
    by_cases c1 : a + j < s.length
    · rw [bif_t (ltI_t (by rw [lenI_eq]; omega))]
      by_cases c2 : j < 7
      · have hadd : addK .i64 (a : Int) 7 = (a : Int) + 7 := addK_eq (by omega) (by omega)
        have hin : inI s ((a + j : Nat) : Int) = true := inI_t (by omega) (by omega)
        have hd := List.drop_eq_getElem_cons c1
        obtain ⟨hb, _, _⟩ := byte_drop hd
        have hnd := hno _ _ hd
        unfold isDg at hnd
        rw [hadd, bif_t (ltI_t (by omega)), hin, cond_true, hb]
        by_cases c3 : 48 ≤ s[a + j].toNat
        · rw [bif_t (leI_t (by omega)), cond_true, bif_f (leI_f (by omega))]; rfl
        · rw [bif_f (leI_f (by omega))]; rfl
      · rw [bif_f (ltI_f (by rw [addK_eq (by omega) (by omega)]; omega))]; rfl
    · rw [bif_f (ltI_n (by rw [lenI_eq]; omega))]; rfl
  | b :: ds, 0, j, n, rest, h, _, _, _, _, _, _ => by simp at h
  | b :: ds, N + 1, j, n, rest, hN, he, hds, hno, h2, hn, hlt => by
    rw [lp22_2, st22_2]
    obtain ⟨hb, c1, hd⟩ := byte_drop (by rw [he]; rfl)
    rw [List.length_cons] at hN h2 hno
    have hbd := hds b List.mem_cons_self
    obtain ⟨d1, d2⟩ := hbd
    have hadd : addK .i64 (a : Int) 7 = (a : Int) + 7 := addK_eq (by omega) (by omega)
    have hin : inI s ((a + j : Nat) : Int) = true := inI_t (by omega) (by omega)
    obtain ⟨ha1, ha2, _⟩ := byte_drop ha
    have hina : inI s (a : Int) = true := inI_t (by omega) (by omega)
    have hp := pow_le6 ⟨j, by omega⟩
    simp only at hp
    have e1 : addK .i64 ((a + j : Nat) : Int) 1 = ((a + (j + 1) : Nat) : Int) := by rw [addK_eq (by omega) (by omega)]; omega
    rw [bif_t (ltI_t (by rw [lenI_eq]; omega)), hadd, bif_t (ltI_t (by omega)), hin, cond_true, hb, bif_t (leI_t (by omega)), cond_true, bif_t (leI_t (by omega)), cond_true, hina, cond_true, ha1,
      bif_f (eqI_f (by omega)), dig_step ⟨d1, d2⟩ hn (by omega), e1]
    have ih := num_loop hs ha hb0 ds N (j + 1) (n * 10 + ((b.toNat : Int) - 48)) rest (by omega) hd (fun x hx => hds x (List.mem_cons_of_mem _ hx)) (by
      rw [show a + (j + 1) + ds.length = a + j + (ds.length + 1) by omega]; exact hno) (by omega) (by omega) (by rw [Int.pow_succ]; omega)
    rw [ih, List.length_cons, show a + (j + 1) + ds.length = a + j + (ds.length + 1) by omega]; rfl

theorem digK_len2 : ∀ (f g u : Nat), 0 < g → u < 10 ^ g → (digK f u).length ≤ g
  | 0, g, u, _, _ => Nat.zero_le _
  | f + 1, g, u, hg, h => by
    by_cases hu : u < 10
    · rw [digK_small hu, List.length_singleton]; omega
    · obtain ⟨g', rfl⟩ : ∃ g', g = g' + 1 := ⟨g - 1, by omega⟩
      have hg' : 0 < g' := by
        rcases Nat.eq_zero_or_pos g' with e | e
        · subst e; omega
        · exact e
      have := digK_len2 f g' (u / 10) hg' (by rw [Nat.pow_succ] at h; omega)
      rw [digK_big (by omega), List.length_append, List.length_singleton]; omega

theorem num_read {s : List UInt8} (hs : s.length < 1000000) {a : Nat} {v : Int} {rest : List UInt8} (h0 : 0 ≤ v) (h1 : v < 10000000) (hd : s.drop a = numT v ++ rest) (hno : noDig s (a + (numT v).length)) :
    fn22 s (a : Int) = some (v, (((a + (numT v).length : Nat) : Int), (true, ()))) := by
  obtain ⟨n, rfl⟩ := Int.eq_ofNat_of_zero_le h0
  have hv : valD 0 (numT (n : Int)) = (n : Int) := digK_val 20 n (by omega) (by
    have : (10 : Nat) ^ 20 = 100000000000000000000 := by decide
    omega)
  have hlen : (numT (n : Int)).length ≤ 7 := digK_len2 20 7 n (by omega) (by omega)
  have hdig : ∀ b ∈ numT (n : Int), isDg b := digK_dig 20 n
  have hpos : 0 < (numT (n : Int)).length := by
    rcases Nat.eq_zero_or_pos (numT (n : Int)).length with e | e
    · rw [List.length_eq_zero_iff.1 e] at hv
      rcases Nat.eq_zero_or_pos n with hn | hn
      · subst hn; exact absurd e (by decide)
      · simp only [valD] at hv; omega
    · exact e
  have key : lp22_2 fuelN s (a : Int) 0 (a : Int) = some (.inl (((a : Int), (n : Int), ((a + (numT (n : Int)).length : Nat) : Int), ()), ())) := by
    rcases Nat.eq_zero_or_pos n with hn | hn
    · subst hn
      have e48 : numT ((0 : Nat) : Int) = [48] := rfl
      rw [e48] at hd ⊢
      obtain ⟨hb, c1, _⟩ := byte_drop (by rw [hd]; rfl)
      have hb' : byteAt s (a : Int) = 48 := hb
      have hin : inI s (a : Int) = true := inI_t (by omega) (by omega)
      have hst := dig_step (n := 0) (b := 48) ⟨by decide, by decide⟩ (by omega) (by omega)
      rw [show (((48 : UInt8).toNat : Nat) : Int) = 48 from rfl] at hst
      rw [show fuelN = (fuelN - 1) + 1 from rfl, lp22_2, st22_2, bif_t (ltI_t (by rw [lenI_eq]; omega)), bif_t (ltI_t (by rw [addK_eq (by omega) (by omega)]; omega)), hin, cond_true, hb', show leI 48 48 = true from rfl, cond_true, cond_true,
        show leI 48 57 = true from rfl, cond_true, cond_true, cond_true, show eqI 48 48 = true from rfl, cond_true, hst, addK_eq (by omega) (by omega)]
      rfl
    · obtain ⟨b, l, hb, hb2⟩ := digK_head 20 n hn (by omega) (by
        have : (10 : Nat) ^ 20 = 100000000000000000000 := by decide
        omega)
      have ha : s.drop a = b :: (l ++ rest) := by
        rw [hd]; unfold numT; rw [Int.toNat_natCast, hb]; rfl
      have h := num_loop hs ha hb2 (numT (n : Int)) fuelN 0 0 rest (by unfold fuelN; omega) hd hdig hno (by omega) (by omega) (by simp)
      rw [hv] at h
      exact h
  rw [fn22, key, obind_some]
  simp only [osum]
  rw [ltI_t (by omega)]
end Go.Proofs.YtnmaceljkegenaaDoor
