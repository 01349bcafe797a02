/-
  The reader of rows, kind by kind; all places to which a form leads.
-/
import Derived.Test.YtkloefipjbeneaaRr
namespace Go.Proofs.Ytkloefipjbeneaa
open Go.RowKit
set_option linter.unusedVariables false
set_option linter.unusedSimpArgs false

theorem apart_nil (Q : Lg) : Apart Q [] := fun c v h => by cases h
theorem apart_Nil (S : List UInt8) : Apart Nil S := fun c v _ h => by cases h
theorem apart_one {S T : List UInt8} (Q : Lg) (hd : (T.all fun c => !S.contains c) = true) : Apart (One S Q) T := (fst_one S Q).apart hd
theorem apart_or {P Q : Lg} {T : List UInt8} (hp : Apart P T) (hq : Apart Q T) : Apart (Or P Q) T := fun c v hc h => h.elim (hp c v hc) (hq c v hc)
theorem apart_many {S T : List UInt8} {Q : Lg} (hq : Apart Q T) (hd : (T.all fun c => !S.contains c) = true) : Apart (Many S Q) T := fun c v hc h => by
  rcases (many_iff S Q _).1 h with h | h
  · exact apart_one _ hd c v hc h
  · exact hq c v hc h
theorem apart_star {B : Lg → Lg} {Q : Lg} {T : List UInt8} (hl : Lin B) (hq : Apart Q T) (hb : ∀ Q, Apart (B Q) T) : Apart (Star B Q) T := fun c v hc h => by
  rcases (star_fix hl Q _).1 h with h | h
  · exact hq c v hc h
  · exact hb _ c v hc h
theorem Apart.sub {Q : Lg} {S T : List UInt8} (h : Apart Q S) (hd : (T.all fun c => S.contains c) = true) : Apart Q T := fun c v hc => h c v (by simpa using List.all_eq_true.1 hd c hc)

/-! ### laws -/

abbrev bodyL (Q : Lg) : Lg := Many [110] (One [76] Q)
abbrev doL (Q : Lg) : Lg := One [100] (bodyL (One [103] (Many [82] Q)))
abbrev sepL (Q : Lg) : Lg := Or (One [59, 38] (Many [110] Q)) (One [110] (Many [110] Q))
abbrev pc1 (Q : Lg) : Lg := sepL (One [65] Q)
abbrev pcJ (by' some : List UInt8) (Q : Lg) : Lg := One by' (Many [110] (One some Q))
abbrev pc4 (Q : Lg) : Lg := One [101] (bodyL (One [116] (bodyL Q)))
abbrev pc5 (Q : Lg) : Lg := One [84] (One [121] (Many [110] Q))
abbrev pc6 (Q : Lg) : Lg := One [124] (One [87] Q)
abbrev cmdS : List UInt8 := [83, 66, 85, 70, 72, 79, 67, 78]
abbrev cmpS : List UInt8 := [66, 85, 70, 72, 79, 67]

theorem lin_body : Lin bodyL := (lin_many _).comp (lin_one _)
theorem lin_sep : Lin sepL := ((lin_one _).comp (lin_many _)).both ((lin_one _).comp (lin_many _))
theorem lin_pc1 : Lin pc1 := lin_sep.comp (lin_one _)
theorem lin_pcJ (x y : List UInt8) : Lin (pcJ x y) := (lin_one _).comp ((lin_many _).comp (lin_one _))
theorem lin_pc4 : Lin pc4 := (lin_one _).comp (lin_body.comp ((lin_one _).comp lin_body))
theorem lin_pc5 : Lin pc5 := (lin_one _).comp ((lin_one _).comp (lin_many _))
theorem lin_pc6 : Lin pc6 := (lin_one _).comp (lin_one _)
theorem eats_pcJ (x y : List UInt8) : Eats (pcJ x y) := (eats_one _).comp ((keeps_many _).comp' (eats_one _).keeps)
theorem eats_pc1 : Eats pc1 := ((eats_one [59, 38]).comp ((keeps_many [110]).comp' (eats_one [65]).keeps)).both ((eats_one [110]).comp ((keeps_many [110]).comp' (eats_one [65]).keeps))
theorem keeps_body : Keeps bodyL := ((keeps_many _).comp (eats_one _)).keeps
theorem eats_pc4 : Eats pc4 := (eats_one _).comp (keeps_body.comp' ((eats_one _).comp keeps_body).keeps)
theorem eats_pc5 : Eats pc5 := (eats_one _).comp ((eats_one _).comp (keeps_many _)).keeps
theorem eats_pc6 : Eats pc6 := (eats_one _).comp (eats_one _).keeps

/-- the law of a kind's rows -/
def kindL (k : Int) : Lg :=
  if k = 1 then Many [110] (Or Nil (One [76] Nil)) else
  if k = 2 then One [65] (Star pc1 (Or Nil (sepL Nil))) else
  if k = 3 then One [73] (Star (pcJ [97, 111] [73]) Nil) else
  if k = 4 then Or (One cmdS (Star (pcJ [124] cmdS) Nil)) (One [33] (One cmdS (Star (pcJ [124] cmdS) Nil))) else
  if k = 5 then fun s => s ≠ [] ∧ Many [88, 82] (Or Nil (One [87] (Many [87, 82] Nil))) s else
  if k = 8 then Or (One [60] (One [87] Nil)) (One [35] (One [60] (One [87] Nil))) else
  if k = 9 then One [123] (bodyL (One [125] (Many [82] Nil))) else
  if k = 10 then One [40] (bodyL (One [41] (Many [82] Nil))) else
  if k = 11 then One [105] (bodyL (One [116] (bodyL (Star pc4 (Or (One [102] (Many [82] Nil)) (One [108] (bodyL (One [102] (Many [82] Nil)))))))) ) else
  if k = 12 then One [119] (bodyL (doL Nil)) else
  if k = 13 then One [114] (One [87] (Or (Or (Many [110] (One [107] (Many [87] (One [59] (Many [110] (doL Nil)))))) (Many [110] (One [107] (Many [87] (One [110] (Many [110] (doL Nil))))))) (Or (One [59] (Many [110] (doL Nil))) (Many [110] (doL Nil))))) else
  if k = 14 then One [99] (One [87] (Many [110] (One [107] (Many [110] (Star pc5 (Or (One [122] (Many [82] Nil)) (One [84] (One [122] (Many [82] Nil)))))))) ) else
  if k = 15 then Or (One [87] (Star pc6 (One [41] (Many [110] (Or Nil (One [76] Nil)))))) (One [40] (One [87] (Star pc6 (One [41] (Many [110] (Or Nil (One [76] Nil))))))) else
  if k = 16 then One [87] (One [40] (One [41] (Many [110] (One cmpS Nil)))) else
  No

theorem kind1 : kindL 1 = Many [110] (Or Nil (One [76] Nil)) := by
  unfold kindL
  rw [if_pos rfl]
theorem kind2 : kindL 2 = One [65] (Star pc1 (Or Nil (sepL Nil))) := by
  unfold kindL
  rw [if_neg (by decide), if_pos rfl]
theorem kind3 : kindL 3 = One [73] (Star (pcJ [97, 111] [73]) Nil) := by
  unfold kindL
  rw [if_neg (by decide), if_neg (by decide), if_pos rfl]
theorem kind4 : kindL 4 = Or (One cmdS (Star (pcJ [124] cmdS) Nil)) (One [33] (One cmdS (Star (pcJ [124] cmdS) Nil))) := by
  unfold kindL
  rw [if_neg (by decide), if_neg (by decide), if_neg (by decide), if_pos rfl]
theorem kind5 : kindL 5 = fun s => s ≠ [] ∧ Many [88, 82] (Or Nil (One [87] (Many [87, 82] Nil))) s := by
  unfold kindL
  rw [if_neg (by decide), if_neg (by decide), if_neg (by decide), if_neg (by decide), if_pos rfl]
theorem kind8 : kindL 8 = Or (One [60] (One [87] Nil)) (One [35] (One [60] (One [87] Nil))) := by
  unfold kindL
  rw [if_neg (by decide), if_neg (by decide), if_neg (by decide), if_neg (by decide), if_neg (by decide), if_pos rfl]
theorem kind9 : kindL 9 = One [123] (bodyL (One [125] (Many [82] Nil))) := by
  unfold kindL
  rw [if_neg (by decide), if_neg (by decide), if_neg (by decide), if_neg (by decide), if_neg (by decide), if_neg (by decide), if_pos rfl]
theorem kind10 : kindL 10 = One [40] (bodyL (One [41] (Many [82] Nil))) := by
  unfold kindL
  rw [if_neg (by decide), if_neg (by decide), if_neg (by decide), if_neg (by decide), if_neg (by decide), if_neg (by decide), if_neg (by decide), if_pos rfl]
theorem kind11 : kindL 11 = One [105] (bodyL (One [116] (bodyL (Star pc4 (Or (One [102] (Many [82] Nil)) (One [108] (bodyL (One [102] (Many [82] Nil)))))))) ) := by
  unfold kindL
  rw [if_neg (by decide), if_neg (by decide), if_neg (by decide), if_neg (by decide), if_neg (by decide), if_neg (by decide), if_neg (by decide), if_neg (by decide), if_pos rfl]
theorem kind12 : kindL 12 = One [119] (bodyL (doL Nil)) := by
  unfold kindL
  rw [if_neg (by decide), if_neg (by decide), if_neg (by decide), if_neg (by decide), if_neg (by decide), if_neg (by decide), if_neg (by decide), if_neg (by decide), if_neg (by decide), if_pos rfl]
theorem kind13 : kindL 13 = One [114] (One [87] (Or (Or (Many [110] (One [107] (Many [87] (One [59] (Many [110] (doL Nil)))))) (Many [110] (One [107] (Many [87] (One [110] (Many [110] (doL Nil))))))) (Or (One [59] (Many [110] (doL Nil))) (Many [110] (doL Nil))))) := by
  unfold kindL
  rw [if_neg (by decide), if_neg (by decide), if_neg (by decide), if_neg (by decide), if_neg (by decide), if_neg (by decide), if_neg (by decide), if_neg (by decide), if_neg (by decide), if_neg (by decide), if_pos rfl]
theorem kind14 : kindL 14 = One [99] (One [87] (Many [110] (One [107] (Many [110] (Star pc5 (Or (One [122] (Many [82] Nil)) (One [84] (One [122] (Many [82] Nil)))))))) ) := by
  unfold kindL
  rw [if_neg (by decide), if_neg (by decide), if_neg (by decide), if_neg (by decide), if_neg (by decide), if_neg (by decide), if_neg (by decide), if_neg (by decide), if_neg (by decide), if_neg (by decide), if_neg (by decide), if_pos rfl]
theorem kind15 : kindL 15 = Or (One [87] (Star pc6 (One [41] (Many [110] (Or Nil (One [76] Nil)))))) (One [40] (One [87] (Star pc6 (One [41] (Many [110] (Or Nil (One [76] Nil))))))) := by
  unfold kindL
  rw [if_neg (by decide), if_neg (by decide), if_neg (by decide), if_neg (by decide), if_neg (by decide), if_neg (by decide), if_neg (by decide), if_neg (by decide), if_neg (by decide), if_neg (by decide), if_neg (by decide), if_neg (by decide), if_pos rfl]
theorem kind16 : kindL 16 = One [87] (One [40] (One [41] (Many [110] (One cmpS Nil)))) := by
  unfold kindL
  rw [if_neg (by decide), if_neg (by decide), if_neg (by decide), if_neg (by decide), if_neg (by decide), if_neg (by decide), if_neg (by decide), if_neg (by decide), if_neg (by decide), if_neg (by decide), if_neg (by decide), if_neg (by decide), if_neg (by decide), if_pos rfl]

/-! ### the reader's functions -/

section
variable {m : Nat} (hm : m < 1000000)
include hm

theorem spec_body : Spec mk0 m (fun s b => fn80 s b) bodyL [] :=
  spec_seq (spec_many [110] hm) (spec_seq (spec_must1 [76]) spec_ret (fun Q _ => apart_nil _)) (fun Q _ => apart_one _ (by decide))

theorem spec_ends : Spec mk0 m (fun s b => fn81 s b) (Many [82]) [82] :=
  spec_seq (spec_many [82] hm) spec_ret (fun Q h => h)

theorem spec_do : Spec mk0 m (fun s b => fn83 s b) doL [82] :=
  spec_seq (spec_must1 [100]) (spec_seq (spec_body hm) (spec_seq (spec_must1 [103]) (spec_seq (spec_ends hm) spec_ret (fun Q h => h)) (fun Q _ => apart_nil _)) (fun Q _ => apart_nil _)) (fun Q _ => apart_nil _)

theorem spec_list : Spec mk0 m (fun s b => fn64 s b) (fun Q => One [65] (Star pc1 (Or Q (sepL Q)))) [59, 38, 110, 65] := by
  have hl := spec_loop (mk := mkL (β := pb64_1.den)) (L := fun n s b => lp64_1 n s b)
    (F := fun n => rSeq (fun s b => fn62 s b [110]) (rIfN [65] (fun s b => some (mkL s b)) (fun s b => lp64_1 n s b)))
    (X := fun Q => Star pc1 (Or Q (sepL Q))) (D := fun Q => Many [110] (Or (One [65] (Star pc1 (Or Q (sepL Q)))) Q)) (S := [59, 38, 110, 65]) (T := [59, 38, 110])
    (fun n s b => (show lp64_1 (n + 1) s b = rIfN [59, 38, 110] (fun s b => some (mkL s b)) (rSeq (fun s b => fn62 s b [110]) (rIfN [65] (fun s b => some (mkL s b)) (fun s b => lp64_1 n s b))) s b from rfl).trans (congrFun (congrFun (rIfN_eq _ _ _) s) b)) (by decide)
    (fun Q s => by
      rw [star_fix lin_pc1]
      have e1 : ∀ P, One [59, 38, 110] P s ↔ One [59, 38] P s ∨ One [110] P s := fun P => by
        constructor
        · rintro ⟨c, v, h1, h2, h3⟩
          simp only [List.mem_cons, List.not_mem_nil, or_false] at h2
          rcases h2 with h2 | h2 | h2
          · exact .inl ⟨c, v, h1, by simp [h2], h3⟩
          · exact .inl ⟨c, v, h1, by simp [h2], h3⟩
          · exact .inr ⟨c, v, h1, by simp [h2], h3⟩
        · rintro (⟨c, v, h1, h2, h3⟩ | ⟨c, v, h1, h2, h3⟩)
          · refine ⟨c, v, h1, ?_, h3⟩
            simp only [List.mem_cons, List.not_mem_nil, or_false] at h2 ⊢
            rcases h2 with h2 | h2
            · exact .inl h2
            · exact .inr (.inl h2)
          · exact ⟨c, v, h1, by simp only [List.mem_cons, List.not_mem_nil, or_false] at h2 ⊢; exact .inr (.inr h2), h3⟩
      rw [e1]
      have e2 : ∀ (T : List UInt8) (P R : Lg), One T (Many [110] (Or P R)) s ↔ One T (Many [110] P) s ∨ One T (Many [110] R) s := fun T P R => ((lin_one T).comp (lin_many [110])).or P R s
      rw [e2, e2]
      simp only [Or, sepL, pc1]
      constructor
      · rintro ((h | h | h) | h | h)
        · exact .inr h
        · exact .inl (.inl (.inr h))
        · exact .inl (.inr (.inr h))
        · exact .inl (.inl (.inl h))
        · exact .inl (.inr (.inl h))
      · rintro (((h | h) | h | h) | h)
        · exact .inr (.inl h)
        · exact .inl (.inr (.inl h))
        · exact .inr (.inr h)
        · exact .inl (.inr (.inr h))
        · exact .inl (.inl h))
    (M := m) (fun k n hk h => spec_seq (spec_many [110] (by omega)) (spec_ifN h spec_ret fun Q hQ => hQ.sub (by decide)) fun Q hQ => apart_or (apart_one _ (by decide)) (hQ.sub (by decide)))
    m fuelN (Nat.le_refl _) (by unfold fuelN; omega)
  exact spec_seq (spec_must1 [65]) (spec_loopThen (g := rRet) hl spec_ret fun Q h => h) fun Q _ => apart_nil _

theorem spec_joined (some' by' : List UInt8) (h1 : ([110].all fun c => !some'.contains c) = true) : Spec mk0 m (fun s b => fn65 s b some' by') (fun Q => One some' (Star (pcJ by' some') Q)) by' := by
  have hl := spec_loop (mk := mkL (β := pb65_1.den)) (L := fun n s b => lp65_1 n some' by' s b)
    (F := fun n => rSeq (fun s b => fn62 s b [110]) (rSeq (fun s b => fn67 s b [some']) (fun s b => lp65_1 n some' by' s b)))
    (X := Star (pcJ by' some')) (D := fun Q => Many [110] (One some' (Star (pcJ by' some') Q))) (S := by') (T := by')
    (fun n s b => rfl) (by simp)
    (fun Q s => by rw [star_fix (lin_pcJ _ _)]; exact or_comm)
    (M := m) (fun k n hk h => spec_seq (spec_many [110] (by omega)) (spec_seq (spec_must1 some') h fun Q _ => apart_nil _) fun Q hQ => apart_one _ h1)
    m fuelN (Nat.le_refl _) (by unfold fuelN; omega)
  exact spec_seq (spec_must1 some') (spec_loopThen (g := rRet) hl spec_ret fun Q h => h) fun Q _ => apart_nil _

theorem spec_if' : Spec mk0 m (fun s b => fn82 s b) (fun Q => One [105] (bodyL (One [116] (bodyL (Star pc4 (Or (One [108] (bodyL (One [102] (Many [82] Q)))) (One [102] (Many [82] Q)))))))) [82] := by
  have hl := spec_loop (mk := mkL (β := pb82_4.den)) (L := fun n s b => lp82_4 n s b)
    (F := fun n => rSeq (fun s b => fn80 s b) (rSeq (fun s b => fn67 s b [[116]]) (rSeq (fun s b => fn80 s b) (fun s b => lp82_4 n s b))))
    (X := Star pc4) (D := fun Q => bodyL (One [116] (bodyL (Star pc4 Q)))) (S := [101]) (T := [101])
    (fun n s b => rfl) (by decide)
    (fun Q s => by rw [star_fix lin_pc4]; exact or_comm)
    (M := m) (fun k n hk h => spec_seq (spec_body (by omega)) (spec_seq (spec_must1 [116]) (spec_seq (spec_body (by omega)) h fun Q _ => apart_nil _) fun Q _ => apart_nil _) fun Q _ => apart_nil _)
    m fuelN (Nat.le_refl _) (by unfold fuelN; omega)
  refine spec_seq (spec_must1 [105]) (spec_seq (spec_body hm) (spec_seq (spec_must1 [116]) (spec_seq (spec_body hm) (spec_loopThen hl (spec_if (T := [108]) (spec_seq (spec_body hm) (spec_seq (spec_must1 [102]) (spec_seq (spec_ends hm) spec_ret fun Q h => h) fun Q _ => apart_nil _) fun Q _ => apart_nil _)
    (spec_seq (spec_must1 [102]) (spec_seq (spec_ends hm) spec_ret fun Q h => h) fun Q _ => apart_nil _) fun Q _ => apart_one _ (by decide)) fun Q _ => apart_or (apart_one _ (by decide)) (apart_one _ (by decide))) fun Q _ => apart_nil _) fun Q _ => apart_nil _) fun Q _ => apart_nil _) fun Q _ => apart_nil _

theorem spec_for : Spec mk0 m (fun s b => fn84 s b) (fun Q => One [114] (One [87] (Or (One [59] (Many [110] (doL Q))) (Many [110] (Or (One [107] (Many [87] (Or (One [59] (Many [110] (doL Q))) (One [110] (Many [110] (doL Q)))))) (doL Q)))))) [82] := by
  have hd := spec_seq (spec_many [110] hm) (spec_seq (spec_do hm) (spec_ret (mk := mk0)) fun Q h => h) fun Q _ => apart_one _ (by decide)
  refine spec_seq (spec_must [[114], [87]] (by simp)) (spec_if (T := [59]) hd (spec_seq (spec_many [110] hm) (spec_if (T := [107]) (spec_seq (spec_many [87] hm)
    (spec_ifN (T := [59]) hd (spec_seq (spec_must1 [110]) hd fun Q _ => apart_nil _) fun Q _ => apart_one _ (by decide)) fun Q _ => apart_or (apart_one _ (by decide)) (apart_one _ (by decide))) (spec_seq (spec_do hm) (spec_ret (mk := mk0)) fun Q h => h) fun Q _ => apart_one _ (by decide))
    fun Q _ => apart_or (apart_one _ (by decide)) (apart_one _ (by decide))) fun Q _ => apart_many (apart_or (apart_one _ (by decide)) (apart_one _ (by decide))) (by decide)) fun Q _ => apart_nil _

theorem spec_case : Spec mk0 m (fun s b => fn85 s b) (fun Q => One [99] (One [87] (Many [110] (One [107] (Many [110] (Star pc5 (Or (One [122] (Many [82] Q)) (One [84] (One [122] (Many [82] Q)))))))))) [82] := by
  have hl := spec_loop (mk := mkL (β := pb85_4.den)) (L := fun n s b => lp85_4 n s b)
    (F := fun n => rIf [121] (rSeq (fun s b => fn62 s b [110]) (fun s b => lp85_4 n s b)) (fun s b => some (mkL s b)))
    (X := fun Q => Star pc5 (Or Q (One [84] Q))) (D := fun Q => Or (One [121] (Many [110] (Star pc5 (Or Q (One [84] Q))))) Q) (S := [84, 121, 110]) (T := [84])
    (fun n s b => rfl) (by decide)
    (fun Q s => by
      rw [star_fix lin_pc5, (lin_one [84]).or]
      simp only [Or]
      constructor
      · rintro ((h | h) | h)
        · exact .inr h
        · exact .inl (.inr h)
        · exact .inl (.inl h)
      · rintro ((h | h) | h)
        · exact .inr h
        · exact .inl (.inr h)
        · exact .inl (.inl h))
    (M := m) (fun k n hk h => spec_if (spec_seq (spec_many [110] (by omega)) h fun Q hQ => apart_star lin_pc5 (apart_or (hQ.sub (by decide)) (apart_one _ (by decide))) fun Q => apart_one _ (by decide)) spec_ret fun Q hQ => hQ.sub (by decide))
    m fuelN (Nat.le_refl _) (by unfold fuelN; omega)
  have hz := spec_seq (spec_must1 [122]) (spec_seq (spec_ends hm) (spec_ret (mk := mk0)) fun Q h => h) fun Q _ => apart_nil _
  refine spec_seq (spec_must [[99], [87]] (by simp)) (spec_seq (spec_many [110] hm) (spec_seq (spec_must1 [107]) (spec_seq (spec_many [110] hm) (spec_loopThen hl hz fun Q _ => apart_one _ (by decide))
    fun Q _ => apart_star lin_pc5 (apart_or (apart_one _ (by decide)) (apart_one _ (by decide))) fun Q => apart_one _ (by decide)) fun Q _ => apart_nil _) fun Q _ => apart_one _ (by decide)) fun Q _ => apart_nil _

theorem spec_item : Spec mk0 m (fun s b => fn86 s b) (fun Q => Or (One [40] (One [87] (Star pc6 (One [41] (Many [110] (Or (One [76] Q) Q)))))) (One [87] (Star pc6 (One [41] (Many [110] (Or (One [76] Q) Q)))))) [76, 110] := by
  have hl := spec_loop (mk := mkL (β := pb86_2.den)) (L := fun n s b => lp86_2 n s b)
    (F := fun n => rSeq (fun s b => fn67 s b [[87]]) (fun s b => lp86_2 n s b))
    (X := Star pc6) (D := fun Q => One [87] (Star pc6 Q)) (S := [124]) (T := [124])
    (fun n s b => rfl) (by decide)
    (fun Q s => by rw [star_fix lin_pc6]; exact or_comm)
    (M := m) (fun k n hk h => spec_seq (spec_must1 [87]) h fun Q _ => apart_nil _)
    m fuelN (Nat.le_refl _) (by unfold fuelN; omega)
  have hg := spec_seq (spec_must1 [87]) (spec_loopThen hl (spec_seq (spec_must1 [41]) (spec_seq (spec_many [110] hm) (spec_opt (T := [76]) (spec_ret (mk := mk0) (S := [76, 110])) fun Q hQ => hQ.sub (by decide))
    fun Q hQ => apart_or (apart_one _ (by decide)) (hQ.sub (by decide))) fun Q _ => apart_nil _) fun Q _ => apart_one _ (by decide)) fun Q _ => apart_nil _
  exact spec_opt (T := [40]) hg fun Q _ => apart_one _ (by decide)

end

/-- what a reader's function tells of a row -/
theorem told {m : Nat} {f : Rd R0} {B : Lg → Lg} {S : List UInt8} (h : Spec mk0 m f B S) (row : List UInt8) (hr : row.length ≤ m) :
    ∃ t, obind (f row false) (fun y0 => bif (!y0.1.2.1) then some ((eqS y0.1.1 []), ()) else some (false, ())) = some (t, ()) ∧ (t = true ↔ B Nil row) := by
  obtain ⟨s', b', h1, h2, h3⟩ := h row false hr
  have h4 := h3 Nil (apart_Nil S)
  rw [h1, obind_some]
  show ∃ t, (bif (!b') then some ((eqS s' []), ()) else some (false, ())) = some (t, ()) ∧ _
  cases b' with
  | true => exact ⟨false, rfl, ⟨fun h => absurd h (by decide), fun h => absurd (h4.2 ⟨rfl, h⟩).1 (by decide)⟩⟩
  | false =>
    refine ⟨eqS s' [], rfl, ?_⟩
    rw [show eqS s' [] = true ↔ s' = [] by simp [eqS]]
    exact ⟨fun h => (h4.1 ⟨rfl, h⟩).2, fun h => (h4.2 ⟨rfl, h⟩).2⟩
end Go.Proofs.Ytkloefipjbeneaa
