/-
  Forms of rows as laws of what is left: one of some signs, many of them, either, again and again.
-/
import Derived.Test.YtkloefipjbeneaaBd
namespace Go.Proofs.Ytkloefipjbeneaa
set_option linter.unusedVariables false
set_option linter.unusedSimpArgs false

abbrev Lg := List UInt8 → Prop
def One (S : List UInt8) (Q : Lg) : Lg := fun s => ∃ c v, s = c :: v ∧ c ∈ S ∧ Q v
def Many (S : List UInt8) (Q : Lg) : Lg := fun s => ∃ w v, s = w ++ v ∧ (∀ c ∈ w, c ∈ S) ∧ Q v
def Or (P Q : Lg) : Lg := fun s => P s ∨ Q s
def pow (B : Lg → Lg) : Nat → Lg → Lg
  | 0, Q => Q
  | k + 1, Q => B (pow B k Q)
def Star (B : Lg → Lg) (Q : Lg) : Lg := fun s => ∃ j, pow B j Q s
def Nil : Lg := fun s => s = []
def No : Lg := fun _ => False

/-- a law goes with unions -/
structure Lin (B : Lg → Lg) : Prop where
  ex : ∀ {ι : Type} (P : ι → Lg) (s : List UInt8), B (fun t => ∃ j, P j t) s ↔ ∃ j, B (P j) s

theorem Lin.or {B : Lg → Lg} (h : Lin B) (P Q : Lg) (s : List UInt8) : B (Or P Q) s ↔ B P s ∨ B Q s := by
  have := h.ex (fun b : Bool => if b then P else Q) s
  have e : (fun t => ∃ j : Bool, (if j = true then P else Q) t) = Or P Q := by
    funext t
    exact propext ⟨fun ⟨j, h⟩ => by cases j; exact .inr h; exact .inl h, fun h => h.elim (fun h => ⟨true, h⟩) fun h => ⟨false, h⟩⟩
  rw [e] at this
  rw [this]
  exact ⟨fun ⟨j, h⟩ => by cases j; exact .inr h; exact .inl h, fun h => h.elim (fun h => ⟨true, h⟩) fun h => ⟨false, h⟩⟩

theorem Lin.mono {B : Lg → Lg} (h : Lin B) {P Q : Lg} (hpq : ∀ s, P s → Q s) (s : List UInt8) (hp : B P s) : B Q s := by
  have e : Or P Q = Q := by
    funext t
    exact propext ⟨fun h => h.elim (hpq t) id, .inr⟩
  rw [← e, h.or]
  exact .inl hp

theorem lin_one (S : List UInt8) : Lin (One S) := ⟨fun P s => ⟨fun ⟨c, v, h1, h2, j, h3⟩ => ⟨j, c, v, h1, h2, h3⟩, fun ⟨j, c, v, h1, h2, h3⟩ => ⟨c, v, h1, h2, j, h3⟩⟩⟩
theorem lin_many (S : List UInt8) : Lin (Many S) := ⟨fun P s => ⟨fun ⟨c, v, h1, h2, j, h3⟩ => ⟨j, c, v, h1, h2, h3⟩, fun ⟨j, c, v, h1, h2, h3⟩ => ⟨c, v, h1, h2, j, h3⟩⟩⟩
theorem Lin.comp {A B : Lg → Lg} (ha : Lin A) (hb : Lin B) : Lin fun Q => A (B Q) := ⟨fun P s => by
  rw [show B (fun t => ∃ j, P j t) = fun t => ∃ j, B (P j) t from funext fun t => propext (hb.ex P t)]
  exact ha.ex (fun j => B (P j)) s⟩
theorem Lin.both {A B : Lg → Lg} (ha : Lin A) (hb : Lin B) : Lin fun Q => Or (A Q) (B Q) := ⟨fun P s => by
  show A _ s ∨ B _ s ↔ _
  rw [ha.ex, hb.ex]
  exact ⟨fun h => h.elim (fun ⟨j, h⟩ => ⟨j, .inl h⟩) fun ⟨j, h⟩ => ⟨j, .inr h⟩, fun ⟨j, h⟩ => h.elim (fun h => .inl ⟨j, h⟩) fun h => .inr ⟨j, h⟩⟩⟩
theorem lin_id : Lin fun Q => Q := ⟨fun P s => Iff.rfl⟩
theorem lin_pow {B : Lg → Lg} (h : Lin B) : ∀ k, Lin (pow B k)
  | 0 => lin_id
  | k + 1 => h.comp (lin_pow h k)

theorem pow_comm {B : Lg → Lg} : ∀ (k : Nat) (Q : Lg), pow B k (B Q) = B (pow B k Q)
  | 0, Q => rfl
  | k + 1, Q => by show B (pow B k (B Q)) = _; rw [pow_comm k]; rfl

theorem star_fix {B : Lg → Lg} (h : Lin B) (Q : Lg) (s : List UInt8) : Star B Q s ↔ Q s ∨ B (Star B Q) s := by
  show (∃ j, pow B j Q s) ↔ Q s ∨ B (fun t => ∃ j, pow B j Q t) s
  rw [h.ex]
  exact ⟨fun ⟨j, hj⟩ => match j, hj with
    | 0, hj => .inl hj
    | j + 1, hj => .inr ⟨j, hj⟩, fun h => h.elim (fun h => ⟨0, h⟩) fun ⟨j, h⟩ => ⟨j + 1, h⟩⟩

theorem lin_star {B : Lg → Lg} (h : Lin B) : Lin (Star B) := ⟨fun P s => by
  show (∃ j, pow B j (fun t => ∃ i, P i t) s) ↔ ∃ i, ∃ j, pow B j (P i) s
  constructor
  · rintro ⟨j, hj⟩
    obtain ⟨i, hi⟩ := ((lin_pow h j).ex P s).1 hj
    exact ⟨i, j, hi⟩
  · rintro ⟨i, j, hi⟩
    exact ⟨j, ((lin_pow h j).ex P s).2 ⟨i, hi⟩⟩⟩

/-- so many rounds, each: as it was, or once more -/
def rounds (B : Lg → Lg) : Nat → Lg → Lg
  | 0, Q => Q
  | k + 1, Q => rounds B k (Or Q (B Q))

theorem rounds_iff {B : Lg → Lg} (h : Lin B) : ∀ (k : Nat) (Q : Lg) (s : List UInt8), rounds B k Q s ↔ ∃ j, j ≤ k ∧ pow B j Q s
  | 0, Q, s => by
    constructor
    · exact fun hq => ⟨0, Nat.le_refl _, hq⟩
    · rintro ⟨j, h1, h2⟩
      obtain rfl : j = 0 := by omega
      exact h2
  | k + 1, Q, s => by
    show rounds B k (Or Q (B Q)) s ↔ _
    rw [rounds_iff h k]
    constructor
    · rintro ⟨j, h1, h2⟩
      rcases ((lin_pow h j).or _ _ _).1 h2 with h3 | h3
      · exact ⟨j, by omega, h3⟩
      · rw [pow_comm] at h3
        exact ⟨j + 1, by omega, h3⟩
    · rintro ⟨j, h1, h2⟩
      by_cases e : j ≤ k
      · exact ⟨j, e, ((lin_pow h j).or _ _ _).2 (.inl h2)⟩
      · obtain rfl : j = k + 1 := by omega
        refine ⟨k, Nat.le_refl _, ((lin_pow h k).or _ _ _).2 (.inr ?_)⟩
        rw [pow_comm]; exact h2

theorem rounds_succ {B : Lg → Lg} : ∀ (k : Nat) (Q : Lg) (s : List UInt8), rounds B (k + 1) Q s ↔ Or (rounds B k Q) (B (rounds B k Q)) s
  | 0, Q, s => Iff.rfl
  | k + 1, Q, s => rounds_succ k (Or Q (B Q)) s

/-- a law takes at least one sign -/
def Eats (B : Lg → Lg) : Prop := ∀ Q s, B Q s → ∃ v, v.length < s.length ∧ Q v
/-- a law takes signs, or none -/
def Keeps (B : Lg → Lg) : Prop := ∀ Q s, B Q s → ∃ v, v.length ≤ s.length ∧ Q v

theorem eats_one (S : List UInt8) : Eats (One S) := fun Q s ⟨c, v, h1, h2, h3⟩ => ⟨v, by subst h1; simp, h3⟩
theorem keeps_many (S : List UInt8) : Keeps (Many S) := fun Q s ⟨c, v, h1, h2, h3⟩ => ⟨v, by subst h1; simp, h3⟩
theorem Eats.keeps {B : Lg → Lg} (h : Eats B) : Keeps B := fun Q s hb => let ⟨v, h1, h2⟩ := h Q s hb; ⟨v, by omega, h2⟩
theorem Eats.comp {A B : Lg → Lg} (ha : Eats A) (hb : Keeps B) : Eats fun Q => A (B Q) := fun Q s h =>
  let ⟨v, h1, h2⟩ := ha _ _ h; let ⟨u, h3, h4⟩ := hb _ _ h2; ⟨u, by omega, h4⟩
theorem Keeps.comp {A B : Lg → Lg} (ha : Keeps A) (hb : Eats B) : Eats fun Q => A (B Q) := fun Q s h =>
  let ⟨v, h1, h2⟩ := ha _ _ h; let ⟨u, h3, h4⟩ := hb _ _ h2; ⟨u, by omega, h4⟩
theorem Keeps.comp' {A B : Lg → Lg} (ha : Keeps A) (hb : Keeps B) : Keeps fun Q => A (B Q) := fun Q s h =>
  let ⟨v, h1, h2⟩ := ha _ _ h; let ⟨u, h3, h4⟩ := hb _ _ h2; ⟨u, by omega, h4⟩
theorem Eats.both {A B : Lg → Lg} (ha : Eats A) (hb : Eats B) : Eats fun Q => Or (A Q) (B Q) := fun Q s h => h.elim (ha Q s) (hb Q s)

theorem pow_len {B : Lg → Lg} (h : Eats B) : ∀ (j : Nat) (Q : Lg) (s : List UInt8), pow B j Q s → j ≤ s.length
  | 0, Q, s, _ => Nat.zero_le _
  | j + 1, Q, s, hp => by
    obtain ⟨v, h1, h2⟩ := h _ _ hp
    have := pow_len h j Q v h2
    omega

theorem rounds_star {B : Lg → Lg} (h : Lin B) (he : Eats B) {k : Nat} {Q : Lg} {s : List UInt8} (hk : s.length ≤ k) : rounds B k Q s ↔ Star B Q s := by
  rw [rounds_iff h]
  exact ⟨fun ⟨j, _, h⟩ => ⟨j, h⟩, fun ⟨j, h⟩ => ⟨j, by have := pow_len he _ _ _ h; omega, h⟩⟩

/-! ### signs that can come first -/

def Fst (Q : Lg) (F : List UInt8) : Prop := ∀ c v, Q (c :: v) → c ∈ F
/-- none of some comes first -/
def Apart (Q : Lg) (S : List UInt8) : Prop := ∀ c v, c ∈ S → ¬ Q (c :: v)

theorem fst_nil : Fst Nil [] := fun c v h => by cases h
theorem fst_one (S : List UInt8) (Q : Lg) : Fst (One S Q) S := fun c v ⟨d, u, h1, h2, h3⟩ => by cases h1; exact h2
theorem fst_many {S F : List UInt8} {Q : Lg} (h : Fst Q F) : Fst (Many S Q) (S ++ F) := fun c v ⟨w, u, h1, h2, h3⟩ => by
  match w, h1 with
  | [], h1 => subst h1; exact List.mem_append_right _ (h c v h3)
  | d :: w, h1 => cases h1; exact List.mem_append_left _ (h2 c List.mem_cons_self)
theorem fst_or {F G : List UInt8} {P Q : Lg} (hp : Fst P F) (hq : Fst Q G) : Fst (Or P Q) (F ++ G) := fun c v h =>
  h.elim (fun h => List.mem_append_left _ (hp c v h)) fun h => List.mem_append_right _ (hq c v h)
theorem fst_star {F G : List UInt8} {B : Lg → Lg} {Q : Lg} (hl : Lin B) (hq : Fst Q F) (hb : ∀ Q, Fst (B Q) G) : Fst (Star B Q) (F ++ G) := fun c v h => by
  rcases (star_fix hl Q _).1 h with h | h
  · exact List.mem_append_left _ (hq c v h)
  · exact List.mem_append_right _ (hb _ c v h)
theorem Fst.apart {Q : Lg} {F S : List UInt8} (h : Fst Q F) (hd : (S.all fun c => !F.contains c) = true) : Apart Q S := fun c v hc hq => by
  have h1 := List.all_eq_true.1 hd c hc
  have h2 := h c v hq
  simp only [Bool.not_eq_true', List.contains_eq_mem, decide_eq_false_iff_not] at h1
  exact h1 h2

theorem many_nil {S : List UInt8} {Q : Lg} : Many S Q [] ↔ Q [] :=
  ⟨fun ⟨w, v, h1, h2, h3⟩ => by
    obtain ⟨rfl, rfl⟩ := List.append_eq_nil_iff.1 h1.symm
    exact h3, fun h => ⟨[], [], rfl, by simp, h⟩⟩
theorem many_cons {S : List UInt8} {Q : Lg} {c : UInt8} {v : List UInt8} : Many S Q (c :: v) ↔ Q (c :: v) ∨ (c ∈ S ∧ Many S Q v) :=
  ⟨fun ⟨w, u, h1, h2, h3⟩ => by
    match w, h1 with
    | [], h1 => subst h1; exact .inl h3
    | d :: w, h1 => cases h1; exact .inr ⟨h2 c List.mem_cons_self, w, u, rfl, fun x hx => h2 x (List.mem_cons_of_mem _ hx), h3⟩,
  fun h => h.elim (fun h => ⟨[], _, rfl, by simp, h⟩) fun ⟨hc, w, u, h1, h2, h3⟩ => ⟨c :: w, u, by rw [h1]; rfl, fun x hx => by
    rcases List.mem_cons.1 hx with rfl | hx
    · exact hc
    · exact h2 x hx, h3⟩⟩
theorem one_nil {S : List UInt8} {Q : Lg} : ¬ One S Q [] := fun ⟨c, v, h, _⟩ => by cases h
theorem one_cons {S : List UInt8} {Q : Lg} {c : UInt8} {v : List UInt8} : One S Q (c :: v) ↔ c ∈ S ∧ Q v :=
  ⟨fun ⟨d, u, h1, h2, h3⟩ => by cases h1; exact ⟨h2, h3⟩, fun ⟨h1, h2⟩ => ⟨c, v, rfl, h1, h2⟩⟩

/-- what is left behind as many as stand there -/
theorem many_drop {S : List UInt8} {Q : Lg} (h : Apart Q S) : ∀ s : List UInt8, Many S Q s ↔ Q (s.dropWhile fun c => S.contains c)
  | [] => many_nil
  | c :: v => by
    rw [many_cons, List.dropWhile_cons]
    by_cases hc : c ∈ S
    · rw [if_pos (by simpa using hc), ← many_drop h v]
      exact ⟨fun h' => h'.elim (fun h' => absurd h' (h c v hc)) And.right, fun h' => .inr ⟨hc, h'⟩⟩
    · rw [if_neg (by simpa using hc)]
      exact ⟨fun h' => h'.elim id fun h' => absurd h'.1 hc, .inl⟩

/-! ### a reader that goes along a row -/

/-- what is left, and whether all was well, answer a law -/
def Acc (Q : Lg) (s : List UInt8) (bad : Bool) : Prop := bad = false ∧ Q s

/-! ### all places to which a form leads -/

def Hit (row : List UInt8) (x : List Bool) (Q : Lg) : Prop := ∃ i, i ≤ row.length ∧ x.getD i false = true ∧ Q (row.drop i)

theorem hit_mono {row : List UInt8} {x : List Bool} {P Q : Lg} (h : ∀ s, P s ↔ Q s) : Hit row x P ↔ Hit row x Q :=
  ⟨fun ⟨i, h1, h2, h3⟩ => ⟨i, h1, h2, (h _).1 h3⟩, fun ⟨i, h1, h2, h3⟩ => ⟨i, h1, h2, (h _).2 h3⟩⟩

theorem hit_begin {row : List UInt8} {x : List Bool} {Q : Lg} (h0 : x.getD 0 false = true) (h1 : ∀ i, 0 < i → x.getD i false = false) : Hit row x Q ↔ Q row :=
  ⟨fun ⟨i, a, b, c⟩ => (by
    by_cases hi : i = 0
    · subst hi; exact c
    · rw [h1 i (by omega)] at b; cases b), fun h => ⟨0, Nat.zero_le _, h0, h⟩⟩

theorem hit_or {row : List UInt8} {x y z : List Bool} {Q : Lg} (h : ∀ i, i ≤ row.length → z.getD i false = (x.getD i false || y.getD i false)) : Hit row z Q ↔ Hit row x Q ∨ Hit row y Q := by
  constructor
  · rintro ⟨i, a, b, c⟩
    rw [h i a, Bool.or_eq_true] at b
    exact b.elim (fun b => .inl ⟨i, a, b, c⟩) fun b => .inr ⟨i, a, b, c⟩
  · rintro (⟨i, a, b, c⟩ | ⟨i, a, b, c⟩)
    · exact ⟨i, a, by rw [h i a, b]; rfl, c⟩
    · exact ⟨i, a, by rw [h i a, b]; simp, c⟩

theorem drop_at {row : List UInt8} {i : Nat} (hi : i < row.length) : row.drop i = row.getD i 0 :: row.drop (i + 1) := by
  rw [List.drop_eq_getElem_cons hi, List.getD_eq_getElem?_getD, List.getElem?_eq_getElem hi]; rfl

theorem hit_one {row : List UInt8} {x y : List Bool} {S : List UInt8} {Q : Lg} (h0 : y.getD 0 false = false)
    (h : ∀ i, i < row.length → y.getD (i + 1) false = (x.getD i false && S.contains (row.getD i 0))) : Hit row y Q ↔ Hit row x (One S Q) := by
  constructor
  · rintro ⟨i, a, b, c⟩
    match i, a, b, c with
    | 0, a, b, c => rw [h0] at b; cases b
    | i + 1, a, b, c =>
      rw [h i (by omega), Bool.and_eq_true] at b
      refine ⟨i, by omega, b.1, ?_⟩
      rw [drop_at (by omega), one_cons]
      exact ⟨by simpa using b.2, c⟩
  · rintro ⟨i, a, b, c⟩
    by_cases hi : i < row.length
    · rw [drop_at hi, one_cons] at c
      exact ⟨i + 1, by omega, by rw [h i hi, b, Bool.true_and]; simpa using c.1, c.2⟩
    · rw [List.drop_eq_nil_of_le (by omega)] at c
      exact absurd c one_nil

theorem hit_many {row : List UInt8} {x y : List Bool} {S : List UInt8} {Q : Lg} (h0 : y.getD 0 false = x.getD 0 false)
    (h : ∀ i, i < row.length → y.getD (i + 1) false = (x.getD (i + 1) false || (y.getD i false && S.contains (row.getD i 0)))) : Hit row y Q ↔ Hit row x (Many S Q) := by
  have key : ∀ (d i : Nat), row.length - i = d → i ≤ row.length → y.getD i false = true → ∀ j, j ≤ i → (∀ k, j ≤ k → k < i → S.contains (row.getD k 0) = true) → True := fun _ _ _ _ _ _ _ _ => trivial
  -- from y to x
  have back : ∀ i, i ≤ row.length → y.getD i false = true → Q (row.drop i) → Hit row x (Many S Q) := by
    have aux : ∀ (i : Nat) (P : Lg), i ≤ row.length → y.getD i false = true → P (row.drop i) → (∀ s, P s → Many S Q s) → Hit row x (Many S Q) := by
      intro i
      induction i with
      | zero => exact fun P a b c hp => ⟨0, a, by rw [← h0]; exact b, hp _ c⟩
      | succ i ih =>
        intro P a b c hp
        rw [h i (by omega), Bool.or_eq_true, Bool.and_eq_true] at b
        rcases b with b | ⟨b, b2⟩
        · exact ⟨i + 1, a, b, hp _ c⟩
        · refine ih (Many S Q) (by omega) b ?_ fun s h => h
          rw [drop_at (by omega), many_cons]
          exact .inr ⟨by simpa using b2, hp _ c⟩
    exact fun i a b c => aux i Q a b c fun s hq => ⟨[], s, rfl, by simp, hq⟩
  have forth : ∀ (d i : Nat), row.length - i = d → i ≤ row.length → y.getD i false = true → Many S Q (row.drop i) → Hit row y Q := by
    intro d
    induction d with
    | zero =>
      intro i hd a b c
      rw [List.drop_eq_nil_of_le (by omega)] at c
      exact ⟨i, a, b, by rw [List.drop_eq_nil_of_le (by omega)]; exact many_nil.1 c⟩
    | succ d ih =>
      intro i hd a b c
      rw [drop_at (by omega), many_cons] at c
      rcases c with c | ⟨c1, c2⟩
      · exact ⟨i, a, b, by rw [drop_at (by omega)]; exact c⟩
      · refine ih (i + 1) (by omega) (by omega) ?_ c2
        rw [h i (by omega), b, Bool.true_and]
        simp only [Bool.or_eq_true]
        exact .inr (by simpa using c1)
  constructor
  · rintro ⟨i, a, b, c⟩; exact back i a b c
  · rintro ⟨i, a, b, c⟩
    refine forth _ i rfl a ?_ c
    match i, a, b with
    | 0, a, b => rw [h0]; exact b
    | i + 1, a, b => rw [h i (by omega), b]; rfl

theorem hit_end {row : List UInt8} {x : List Bool} : Hit row x Nil ↔ x.getD row.length false = true :=
  ⟨fun ⟨i, a, b, c⟩ => by
    have : row.length ≤ i := by
      have := congrArg List.length (show row.drop i = [] from c)
      simp at this; omega
    obtain rfl : i = row.length := by omega
    exact b, fun h => ⟨row.length, Nat.le_refl _, h, by show row.drop row.length = []; simp⟩⟩

end Go.Proofs.Ytkloefipjbeneaa
