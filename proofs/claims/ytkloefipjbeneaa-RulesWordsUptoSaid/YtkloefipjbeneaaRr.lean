/-
  The reader of rows: which rows it takes, kind by kind.
-/
import Derived.Test.YtkloefipjbeneaaRq
import Derived.Test.YtkloefipjbeneaaWb
namespace Go.Proofs.Ytkloefipjbeneaa
open Go.RowKit
set_option linter.unusedVariables false
set_option linter.unusedSimpArgs false

theorem ib_cons (x : UInt8) (l : List UInt8) (c : UInt8) : (x = c ∧ Lib.indexByte (x :: l) c = 0) ∨ (x ≠ c ∧ Lib.indexByte l c = -1 ∧ Lib.indexByte (x :: l) c = -1) ∨ (x ≠ c ∧ 0 ≤ Lib.indexByte l c ∧ Lib.indexByte (x :: l) c = Lib.indexByte l c + 1) := by
  have hge := Lib.indexByte_ge l c
  by_cases h1 : x = c
  · left; exact ⟨h1, by simp [Lib.indexByte, h1]⟩
  · right
    by_cases h2 : Lib.indexByte l c = -1
    · left; exact ⟨h1, h2, by simp [Lib.indexByte, h1, h2]⟩
    · right; exact ⟨h1, by omega, by simp [Lib.indexByte, h1, h2]⟩

theorem ib_mem (c : UInt8) : ∀ l : List UInt8, 0 ≤ Lib.indexByte l c ↔ c ∈ l
  | [] => by simp [Lib.indexByte]
  | x :: l => by
    have ih := ib_mem c l
    rcases ib_cons x l c with ⟨h, e⟩ | ⟨h, h2, e⟩ | ⟨h, h2, e⟩
    · rw [e, h]; simp
    · rw [e, List.mem_cons]
      constructor
      · intro h'; omega
      · rintro (h' | h')
        · exact absurd h'.symm h
        · have := ih.2 h'; omega
    · rw [e, List.mem_cons]
      exact ⟨fun _ => .inr (ih.1 h2), fun _ => by omega⟩

theorem ibW_mem (S : List UInt8) (c : UInt8) : leI 0 (ibW S (c.toNat : Int)) = S.contains c := by
  have : ibW S (c.toNat : Int) = Lib.indexByte S c := by
    unfold ibW
    congr 1
    simp
  rw [this]
  by_cases h : c ∈ S
  · rw [leI_t ((ib_mem c S).2 h)]; simpa using h
  · rw [leI_n (fun h' => h ((ib_mem c S).1 h'))]; simpa using h

theorem take_nil (b : Bool) (S : List UInt8) : fn63 [] b S = some (([], (b, ())), (false, ())) := rfl
theorem take_cons (c : UInt8) (v : List UInt8) (b : Bool) (S : List UInt8) : fn63 (c :: v) b S = some (bif S.contains c then ((v, (b, ())), (true, ())) else ((c :: v, (b, ())), (false, ()))) := by
  rw [fn63, fn79, show eqS (c :: v) [] = false from rfl, show inI (c :: v) 0 = true by simp [inI]]
  simp only [Bool.not_false, cond_true]
  rw [fn39, fn58]
  simp only [obind_some]
  rw [show byteAt (c :: v) 0 = (c.toNat : Int) from rfl, ibW_mem]
  by_cases h : S.contains c
  · rw [h]
    simp only [Bool.not_true, cond_false, cond_true]
    rw [bif_t (partI_t (by omega) (by rw [lenI_eq]; simp only [List.length_cons]; omega) (by omega))]
    rw [show sub (c :: v) 1 (lenI (c :: v)) = v by simp [sub, lenI_eq]]
  · rw [Bool.not_eq_true] at h
    rw [h]
    rfl

theorem take_in {c : UInt8} {v : List UInt8} {b : Bool} {S : List UInt8} (h : c ∈ S) : fn63 (c :: v) b S = some ((v, (b, ())), (true, ())) := by
  rw [take_cons, show S.contains c = true by simpa using h]; rfl
theorem take_out {c : UInt8} {v : List UInt8} {b : Bool} {S : List UInt8} (h : c ∉ S) : fn63 (c :: v) b S = some ((c :: v, (b, ())), (false, ())) := by
  rw [take_cons, show S.contains c = false by simpa using h]; rfl

abbrev Rd (ρ : Type) := List UInt8 → Bool → Option ρ
abbrev R0 := (List UInt8 × Bool × Unit) × Unit
def mk0 (s : List UInt8) (b : Bool) : R0 := ((s, (b, ())), ())

/-- of rows of at most m signs: the reader comes to its end; what is left answers a law just if the row answered the law's forebear (of laws none of which begins with some signs) -/
def Spec {ρ : Type} (mk : List UInt8 → Bool → ρ) (m : Nat) (f : Rd ρ) (B : Lg → Lg) (S : List UInt8) : Prop :=
  ∀ s b, s.length ≤ m → ∃ s' b', f s b = some (mk s' b') ∧ s'.length ≤ s.length ∧ ∀ Q, Apart Q S → (Acc Q s' b' ↔ Acc (B Q) s b)

def rSeq {ρ : Type} (f : Rd R0) (g : Rd ρ) : Rd ρ := fun s b => obind (f s b) fun y => g y.1.1 y.1.2.1
def rIf {ρ : Type} (S : List UInt8) (f g : Rd ρ) : Rd ρ := fun s b => obind (fn63 s b S) fun y => bif y.2.1 then f y.1.1 y.1.2.1 else g y.1.1 y.1.2.1
def rIfN {ρ : Type} (S : List UInt8) (g f : Rd ρ) : Rd ρ := fun s b => obind (fn63 s b S) fun y => bif (!y.2.1) then g y.1.1 y.1.2.1 else f y.1.1 y.1.2.1
def rOpt {ρ : Type} (S : List UInt8) (g : Rd ρ) : Rd ρ := fun s b => obind (fn63 s b S) fun y => g y.1.1 y.1.2.1
def rRet : Rd R0 := fun s b => some ((s, (b, ())), ())

section
variable {ρ : Type} {mk : List UInt8 → Bool → ρ} {m : Nat}

theorem spec_ret {S : List UInt8} : Spec mk m (fun s b => some (mk s b)) (fun Q => Q) S := fun s b _ => ⟨s, b, rfl, Nat.le_refl _, fun Q _ => Iff.rfl⟩
theorem Spec.weak {f : Rd ρ} {B : Lg → Lg} {S : List UInt8} {n : Nat} (h : Spec mk m f B S) (hn : n ≤ m) : Spec mk n f B S := fun s b hs => h s b (by omega)
theorem Spec.more {f : Rd ρ} {B : Lg → Lg} {S T : List UInt8} (h : Spec mk m f B S) (hd : (S.all fun c => T.contains c) = true) : Spec mk m f B T := fun s b hs => by
  obtain ⟨s1, b1, h1, h2, h3⟩ := h s b hs
  exact ⟨s1, b1, h1, h2, fun Q hQ => h3 Q fun c v hc => hQ c v (by simpa using List.all_eq_true.1 hd c hc)⟩
theorem Spec.law {f : Rd ρ} {B C : Lg → Lg} {S : List UInt8} (h : Spec mk m f B S) (hc : ∀ Q s, Apart Q S → (B Q s ↔ C Q s)) : Spec mk m f C S := fun s b hs => by
  obtain ⟨s1, b1, h1, h2, h3⟩ := h s b hs
  refine ⟨s1, b1, h1, h2, fun Q hQ => (h3 Q hQ).trans ?_⟩
  unfold Acc
  rw [hc Q s hQ]

theorem spec_seq {f : Rd R0} {g : Rd ρ} {B C : Lg → Lg} {S T : List UInt8} (hf : Spec mk0 m f B T) (hg : Spec mk m g C S) (hc : ∀ Q, Apart Q S → Apart (C Q) T) : Spec mk m (rSeq f g) (fun Q => B (C Q)) S := fun s b hs => by
  obtain ⟨s1, b1, h1, h2, h3⟩ := hf s b hs
  obtain ⟨s2, b2, g1, g2, g3⟩ := hg s1 b1 (by omega)
  refine ⟨s2, b2, ?_, by omega, fun Q hQ => (g3 Q hQ).trans (h3 _ (hc Q hQ))⟩
  rw [rSeq, h1, obind_some]
  exact g1

theorem spec_if {f g : Rd ρ} {B C : Lg → Lg} {S T : List UInt8} (hf : Spec mk m f B S) (hg : Spec mk m g C S) (hc : ∀ Q, Apart Q S → Apart (C Q) T) : Spec mk m (rIf T f g) (fun Q => Or (One T (B Q)) (C Q)) S := fun s b hs => by
  unfold rIf
  match s, hs with
  | [], hs =>
    obtain ⟨s2, b2, g1, g2, g3⟩ := hg [] b hs
    refine ⟨s2, b2, ?_, g2, fun Q hQ => (g3 Q hQ).trans ?_⟩
    · rw [take_nil, obind_some]; exact g1
    · exact ⟨fun h => ⟨h.1, .inr h.2⟩, fun h => ⟨h.1, h.2.elim (fun h => absurd h one_nil) id⟩⟩
  | c :: v, hs =>
    by_cases hc' : c ∈ T
    · obtain ⟨s2, b2, g1, g2, g3⟩ := hf v b (by simp only [List.length_cons] at hs; omega)
      refine ⟨s2, b2, ?_, by simp only [List.length_cons]; omega, fun Q hQ => (g3 Q hQ).trans ?_⟩
      · rw [take_in hc', obind_some]; exact g1
      · exact ⟨fun h => ⟨h.1, .inl (one_cons.2 ⟨hc', h.2⟩)⟩, fun h => ⟨h.1, h.2.elim (fun h => (one_cons.1 h).2) fun h => absurd h (hc Q hQ c v hc')⟩⟩
    · obtain ⟨s2, b2, g1, g2, g3⟩ := hg (c :: v) b hs
      refine ⟨s2, b2, ?_, g2, fun Q hQ => (g3 Q hQ).trans ?_⟩
      · rw [take_out hc', obind_some]; exact g1
      · exact ⟨fun h => ⟨h.1, .inr h.2⟩, fun h => ⟨h.1, h.2.elim (fun h => absurd (one_cons.1 h).1 hc') id⟩⟩

theorem rIfN_eq (S : List UInt8) (g f : Rd ρ) : rIfN S g f = rIf S f g := by
  funext s b
  unfold rIfN rIf
  congr 1
  funext y
  cases y.2.1 <;> rfl

theorem rOpt_eq (S : List UInt8) (g : Rd ρ) : rOpt S g = rIf S g g := by
  funext s b
  unfold rOpt rIf
  congr 1
  funext y
  cases y.2.1 <;> rfl

theorem spec_ifN {f g : Rd ρ} {B C : Lg → Lg} {S T : List UInt8} (hf : Spec mk m f B S) (hg : Spec mk m g C S) (hc : ∀ Q, Apart Q S → Apart (C Q) T) : Spec mk m (rIfN T g f) (fun Q => Or (One T (B Q)) (C Q)) S := by
  rw [rIfN_eq]; exact spec_if hf hg hc
theorem spec_opt {g : Rd ρ} {C : Lg → Lg} {S T : List UInt8} (hg : Spec mk m g C S) (hc : ∀ Q, Apart Q S → Apart (C Q) T) : Spec mk m (rOpt T g) (fun Q => Or (One T (C Q)) (C Q)) S := by
  rw [rOpt_eq]; exact spec_if hg hg hc

/-- a loop that takes one of some signs and more -/
theorem spec_loop {L F : Nat → Rd ρ} {X D : Lg → Lg} {S T : List UInt8} (hL : ∀ n s b, L (n + 1) s b = rIf T (F n) (fun s b => some (mk s b)) s b)
    (hT : (T.all fun c => S.contains c) = true) (hX : ∀ Q s, X Q s ↔ One T (D Q) s ∨ Q s) {M : Nat} (hF : ∀ m n, m ≤ M → Spec mk m (L n) X S → Spec mk m (F n) D S) : ∀ m n, m ≤ M → m < n → Spec mk m (L n) X S
  | m, 0, hM, h => by omega
  | m, n + 1, hM, h => fun s b hs => by
    match s, hs with
    | [], hs =>
      refine ⟨[], b, ?_, Nat.le_refl _, fun Q hQ => ?_⟩
      · rw [hL, rIf, take_nil, obind_some]; rfl
      · unfold Acc
        rw [hX]
        exact ⟨fun h => ⟨h.1, .inr h.2⟩, fun h => ⟨h.1, h.2.elim (fun h => absurd h one_nil) id⟩⟩
    | c :: v, hs =>
      simp only [List.length_cons] at hs
      by_cases hc : c ∈ T
      · obtain ⟨s2, b2, g1, g2, g3⟩ := hF (m - 1) n (by omega) (spec_loop hL hT hX hF (m - 1) n (by omega) (by omega)) v b (by omega)
        refine ⟨s2, b2, ?_, by simp only [List.length_cons]; omega, fun Q hQ => (g3 Q hQ).trans ?_⟩
        · rw [hL, rIf, take_in hc, obind_some]; exact g1
        · unfold Acc
          rw [hX]
          have hq : ¬ Q (c :: v) := hQ c v (by simpa using List.all_eq_true.1 hT c hc)
          exact ⟨fun h => ⟨h.1, .inl (one_cons.2 ⟨hc, h.2⟩)⟩, fun h => ⟨h.1, h.2.elim (fun h => (one_cons.1 h).2) fun h => absurd h hq⟩⟩
      · refine ⟨c :: v, b, ?_, Nat.le_refl _, fun Q hQ => ?_⟩
        · rw [hL, rIf, take_out hc, obind_some]; rfl
        · unfold Acc
          rw [hX]
          exact ⟨fun h => ⟨h.1, .inr h.2⟩, fun h => ⟨h.1, h.2.elim (fun h => absurd (one_cons.1 h).1 hc) id⟩⟩
end

/-! ### many, must -/

abbrev RL (β : Type) := (Unit × (Unit × Unit) × ((List UInt8 × Bool × Unit) × Unit)) ⊕ β
def mkL {β : Type} (s : List UInt8) (b : Bool) : RL β := .inl ((), ((), ()), ((s, b, ()), ()))
/-- a loop, and what comes behind it -/
def rLoop {β ρ : Type} (l : Rd (RL β)) (g : Rd ρ) : Rd ρ := fun s b => obind (l s b) fun y => osum y (fun a => g a.2.2.1.1 a.2.2.1.2.1) fun _ => none

theorem spec_loopThen {β ρ : Type} {mk : List UInt8 → Bool → ρ} {m : Nat} {l : Rd (RL β)} {g : Rd ρ} {B C : Lg → Lg} {S T : List UInt8} (hf : Spec mkL m l B T) (hg : Spec mk m g C S) (hc : ∀ Q, Apart Q S → Apart (C Q) T) : Spec mk m (rLoop l g) (fun Q => B (C Q)) S := fun s b hs => by
  obtain ⟨s1, b1, h1, h2, h3⟩ := hf s b hs
  obtain ⟨s2, b2, g1, g2, g3⟩ := hg s1 b1 (by omega)
  refine ⟨s2, b2, ?_, by omega, fun Q hQ => (g3 Q hQ).trans (h3 _ (hc Q hQ))⟩
  rw [rLoop, h1, obind_some]
  exact g1

theorem many_iff (S : List UInt8) (Q : Lg) (s : List UInt8) : Many S Q s ↔ One S (Many S Q) s ∨ Q s := by
  match s with
  | [] => rw [many_nil]; exact ⟨.inr, fun h => h.elim (fun h => absurd h one_nil) id⟩
  | c :: v => rw [many_cons, one_cons]; exact or_comm

theorem spec_many (S : List UInt8) {m : Nat} (hm : m < 1000000) : Spec mk0 m (fun s b => fn62 s b S) (Many S) S := by
  have h := spec_loop (mk := mkL (β := pb62_0.den)) (L := fun n s b => lp62_0 n S s b) (F := fun n s b => lp62_0 n S s b) (X := Many S) (D := Many S) (S := S) (T := S)
    (fun n s b => rfl) (by simp) (many_iff S) (M := m) (fun m n _ h => h) m fuelN (Nat.le_refl _) (by unfold fuelN; omega)
  exact spec_loopThen (g := rRet) h spec_ret (fun Q h => h)

theorem must_go (S : List (List UInt8)) (hS : S.length < 1000) : ∀ (k N i : Nat), i + k = S.length → k < N → ∀ s b, ∃ s' b', (lp67_1 N S (lenI S) (i : Int) s b = some (.inl ((), ((), ()), ((s', b', ()), ()))) ∨ lp67_1 N S (lenI S) (i : Int) s b = some (.inr ((), ((), ()), ((s', b', ()), ())))) ∧
    s'.length ≤ s.length ∧ ∀ Q, (Acc Q s' b' ↔ Acc ((S.drop i).foldr One Q) s b)
  | k, 0, i, h1, h2 => by omega
  | 0, N + 1, i, h1, h2 => fun s b => by
    refine ⟨s, b, .inl ?_, Nat.le_refl _, fun Q => ?_⟩
    · rw [lp67_1, st67_1, bif_f (ltI_f (by rw [lenI_eq]; omega))]
    · rw [List.drop_eq_nil_of_le (by omega)]; rfl
  | k + 1, N + 1, i, h1, h2 => fun s b => by
    have hi : i < S.length := by omega
    rw [lp67_1, st67_1, bif_t (ltI_t (by rw [lenI_eq]; omega)), bif_t (inI_t (by omega) (by omega)), addK_eq (by omega) (by omega),
      show getI S [] (i : Int) = S[i] by simp [getI, List.getD, hi], List.drop_eq_getElem_cons hi]
    match s with
    | [] =>
      rw [take_nil, obind_some]
      refine ⟨[], true, .inr rfl, Nat.le_refl _, fun Q => ⟨fun h => absurd h.1 (by decide), fun h => absurd h.2 one_nil⟩⟩
    | c :: v =>
      by_cases hc : c ∈ S[i]
      · rw [take_in hc, obind_some]
        obtain ⟨s', b', h3, h4, h5⟩ := must_go S hS k N (i + 1) (by omega) (by omega) v b
        refine ⟨s', b', h3, by simp only [List.length_cons]; omega, fun Q => (h5 Q).trans ?_⟩
        unfold Acc
        rw [List.foldr_cons, one_cons]
        exact ⟨fun h => ⟨h.1, hc, h.2⟩, fun h => ⟨h.1, h.2.2⟩⟩
      · rw [take_out hc, obind_some]
        refine ⟨c :: v, true, .inr rfl, Nat.le_refl _, fun Q => ⟨fun h => absurd h.1 (by decide), fun h => absurd (one_cons.1 h.2).1 hc⟩⟩

theorem spec_must (S : List (List UInt8)) (hS : S.length < 1000) {m : Nat} : Spec mk0 m (fun s b => fn67 s b S) (fun Q => S.foldr One Q) [] := fun s b hs => by
  obtain ⟨s', b', h1, h2, h3⟩ := must_go S hS S.length fuelN 0 (by omega) (by unfold fuelN; omega) s b
  refine ⟨s', b', ?_, h2, fun Q _ => h3 Q⟩
  show fn67 s b S = _
  rw [fn67]
  rcases h1 with h1 | h1
  · rw [show lp67_1 fuelN S (lenI S) 0 s b = _ from h1]; rfl
  · rw [show lp67_1 fuelN S (lenI S) 0 s b = _ from h1]; rfl

theorem spec_must1 (S : List UInt8) {m : Nat} : Spec mk0 m (fun s b => fn67 s b [S]) (One S) [] := spec_must [S] (by simp)

end Go.Proofs.Ytkloefipjbeneaa
