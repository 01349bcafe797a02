/-
  The plain machine: environments by lists; words for the plain functions.
-/
import Derived.Test.YtnmaceljkegenaaDoorBb
namespace Go.Proofs.YtnmaceljkegenaaDoor
open Go.RowKit
set_option linter.unusedVariables false
set_option linter.unusedSimpArgs false

def sgOf : List (FuncId × Sum) → FuncId → Option Sum
  | [], _ => none
  | e :: l, g => bif Nat.beq g e.1 then some e.2 else sgOf l g

theorem sgOf_ok {P : Program} : ∀ (l : List (FuncId × Sum)), (∀ e ∈ l, SumOk P e.1 e.2) → ∀ g s, sgOf l g = some s → SumOk P g s
  | [], _, g, s, h => by cases h
  | e :: l, hl, g, s, h => by
    simp only [sgOf] at h
    rw [cond_eq_ite] at h
    split at h
    · rename_i hg
      obtain rfl : g = e.1 := Nat.eq_of_beq_eq_true hg
      cases h
      exact hl e (by simp)
    · exact sgOf_ok l (fun e he => hl e (List.mem_cons_of_mem _ he)) g s h

/-- what is told of the loops of one function -/
def kpOf (f : FuncId) (l : List (Nat × Keep)) (g : FuncId) (id : Nat) : Option Keep :=
  bif Nat.beq g f then (l.find? fun e => Nat.beq id e.1).map (·.2) else none
def lpOf (f : FuncId) (l : List (Nat × LoopSum)) (g : FuncId) (id : Nat) : Option LoopSum :=
  bif Nat.beq g f then (match l.find? fun e => Nat.beq id e.1 with | some e => some e.2 | none => none) else none

theorem lpOf_other {f g : FuncId} (l : List (Nat × LoopSum)) (h : g ≠ f) (id : Nat) : lpOf f l g id = none := by
  have : Nat.beq g f = false := by
    cases hb : Nat.beq g f with
    | false => rfl
    | true => exact absurd (Nat.eq_of_beq_eq_true hb) h
  simp [lpOf, this]

/-- the check of builders of texts, if there is one -/
def chkF : FuncId := 18
def isChk (g : FuncId) : Bool := Nat.beq g chkF && !Nat.beq chkF 1000000

def sbOf : List (FuncId × SumB) → FuncId → Option SumB
  | [], _ => none
  | e :: l, g => bif Nat.beq g e.1 then some e.2 else sbOf l g

theorem sbOf_ok {P : Program} : ∀ (l : List (FuncId × SumB)), (∀ e ∈ l, SumBOk P e.1 e.2) → ∀ g s, sbOf l g = some s → SumBOk P g s
  | [], _, g, s, h => by cases h
  | e :: l, hl, g, s, h => by
    simp only [sbOf] at h
    cases hb : Nat.beq g e.1 with
    | true =>
      rw [hb] at h
      cases h
      rw [Nat.eq_of_beq_eq_true hb]
      exact hl e (by simp)
    | false =>
      rw [hb] at h
      exact sbOf_ok l (fun e he => hl e (List.mem_cons_of_mem _ he)) g s h

/-- the environment of one function -/
def envOf (P : Program) (T : TT) (f : FuncId) (sg : List (FuncId × Sum)) (kp : List (Nat × Keep)) (lp : List (Nat × LoopSum)) (sb : List (FuncId × SumB) := []) : Env :=
  { P := P, T := T, cl := false, kp := kpOf f kp, sg := sgOf sg, lp := lpOf f lp, bf := isChk, sb := sbOf sb }

theorem envOf_ok {P : Program} {T : TT} (hT : TOk P T) (hm : P.follows .mixedOrders = true) (hng : NoGor P) {f : FuncId} {sg : List (FuncId × Sum)} {kp : List (Nat × Keep)} {lp : List (Nat × LoopSum)} {sb : List (FuncId × SumB)}
    (hs : ∀ e ∈ sg, SumOk P e.1 e.2) {fn : Func} {c : Code} (hf : P.funcs[f]? = some fn) (hb : fn.body = some c) (hl : loopsOk (envOf P T f sg kp lp sb) f c) (hrf : ∀ E, LoopsOk P E → RfOk E) (hB : ∀ g, isChk g = true → CheckOk P g) (hx : ∀ e ∈ sb, SumBOk P e.1 e.2 := by simp) : EnvOk (envOf P T f sg kp lp sb) := by
  have hL : LoopsOk P (envOf P T f sg kp lp sb) := ?_
  exact ⟨hT, hm, hng, sgOf_ok sg hs, hL, hrf _ hL, hB, sbOf_ok sb hx⟩
  intro g fn' c' h1 h2
  by_cases e : g = f
  · subst e
    have h1' : P.funcs[g]? = some fn' := h1
    rw [hf] at h1'
    cases h1'
    rw [hb] at h2
    cases h2
    exact hl
  · exact loopsOk_none (fun id => lpOf_other lp e id) (fun _ => rfl) c'

/-! ### environments that know loops of several functions -/
def kpOf2 (l : List (FuncId × Nat × Keep)) (g : FuncId) (id : Nat) : Option Keep := match l.find? fun e => Nat.beq g e.1 && Nat.beq id e.2.1 with
  | some e => some e.2.2
  | none => none
def lpOf2 : List (FuncId × Nat × LoopSum) → FuncId → Nat → Option LoopSum
  | [], _, _ => none
  | e :: l, g, id => bif Nat.beq g e.1 && Nat.beq id e.2.1 then some e.2.2 else lpOf2 l g id

theorem lpOf2_none : ∀ (l : List (FuncId × Nat × LoopSum)) (g : FuncId), (∀ e ∈ l, e.1 ≠ g) → ∀ id, lpOf2 l g id = none
  | [], g, _, id => rfl
  | e :: l, g, h, id => by
    have hb : Nat.beq g e.1 = false := by
      cases hb : Nat.beq g e.1 with
      | false => rfl
      | true => exact absurd (Nat.eq_of_beq_eq_true hb).symm (h e (by simp))
    simp only [lpOf2, hb, Bool.false_and, cond_false]
    exact lpOf2_none l g (fun e he => h e (List.mem_cons_of_mem _ he)) id

def envOf2 (P : Program) (T : TT) (sg : List (FuncId × Sum)) (kp : List (FuncId × Nat × Keep)) (lp : List (FuncId × Nat × LoopSum)) (rf : List FuncId) (sb : List (FuncId × SumB) := []) : Env :=
  { P := P, T := T, cl := false, kp := kpOf2 kp, sg := sgOf sg, lp := lpOf2 lp, rf := fun g _ => rf.any fun x => Nat.beq g x, bf := isChk, sb := sbOf sb }

theorem envOf2_ok {P : Program} {T : TT} (hT : TOk P T) (hm : P.follows .mixedOrders = true) (hng : NoGor P) {sg : List (FuncId × Sum)} {kp : List (FuncId × Nat × Keep)} {lp : List (FuncId × Nat × LoopSum)}
    {rf : List FuncId} {sb : List (FuncId × SumB)} (hs : ∀ e ∈ sg, SumOk P e.1 e.2) (fs : List FuncId) (hall : (lp.all fun e => fs.any fun g => Nat.beq e.1 g) = true) (hall2 : (rf.all fun e => fs.any fun g => Nat.beq e g) = true) (hl : ∀ g ∈ fs, ∃ fn c, P.funcs[g]? = some fn ∧ fn.body = some c ∧ loopsOk (envOf2 P T sg kp lp rf sb) g c)
    (hrf : ∀ E, LoopsOk P E → RfOk E) (hB : ∀ g, isChk g = true → CheckOk P g) (hx : ∀ e ∈ sb, SumBOk P e.1 e.2 := by simp) : EnvOk (envOf2 P T sg kp lp rf sb) := by
  have hL : LoopsOk P (envOf2 P T sg kp lp rf sb) := ?_
  exact ⟨hT, hm, hng, sgOf_ok sg hs, hL, hrf _ hL, hB, sbOf_ok sb hx⟩
  intro g fn' c' h1 h2
  by_cases e : g ∈ fs
  · obtain ⟨fn, c, h3, h4, h5⟩ := hl g e
    have h1' : P.funcs[g]? = some fn' := h1
    rw [h3] at h1'
    cases h1'
    rw [h4] at h2
    cases h2
    exact h5
  · refine loopsOk_none (fun id => lpOf2_none lp g (fun x hx hxe => e ?_) id) (fun _ => ?_) c'
    · have := List.all_eq_true.1 hall x hx
      obtain ⟨g', hg', hb⟩ := List.any_eq_true.1 this
      rw [← hxe, Nat.eq_of_beq_eq_true hb]
      exact hg'
    · cases hr : rf.any fun x => Nat.beq g x with
      | false => exact hr
      | true =>
        obtain ⟨x, hx, hxb⟩ := List.any_eq_true.1 hr
        obtain ⟨g', hg', hb⟩ := List.any_eq_true.1 (List.all_eq_true.1 hall2 x hx)
        exact absurd (by rw [Nat.eq_of_beq_eq_true hxb, Nat.eq_of_beq_eq_true hb]; exact hg') e

/-! ### words -/
def catL {α : Type} (a b : List α) : List α := a ++ b
def natI (i : Int) : Nat := i.toNat
def nthN {α : Type} (l : List α) (d : α) (i : Nat) : α := l.getD i d
def takeN {α : Type} (l : List α) (n : Nat) : List α := l.take n
def repN {α : Type} (n : Nat) (x : α) : List α := List.replicate n x
def roomS (a b : List UInt8) : Bool := decide (a.length + b.length ≤ roomN)
def ltL {α : Type} (i : Nat) (l : List α) : Bool := ltN i l.length
def remI (a b : Int) : Int := a.tmod b
def wrapK (k : IntKind) (n : Int) : Int := k.wrap n
def addZ (a b : Int) : Int := a + b
def subZ (a b : Int) : Int := a - b
def roomC (c : Int) (n : Nat) : Bool := decide (c.toNat * n ≤ roomN)

def eqB (a b : Bool) : Bool := a == b
def eqLD (t : Ty) (x y : List t.den) : Bool := eqList (eqD t) x y
def ibW (s : List UInt8) (c : Int) : Int := Lib.indexByte s c.toNat.toUInt8

/-- parts of a code -/
def cA : Code → Code
  | .seq a _ => a
  | .block _ c => c
  | .loop c => c
  | .scope c => c
  | .cond _ a _ => a
  | .rangeFunc _ _ a _ => a
  | c => c
def cB : Code → Code
  | .seq _ b => b
  | .cond _ _ b => b
  | .rangeFunc _ _ _ b => b
  | c => c

/-- the loops of a code, inner ones first -/
def loopsAt : Code → List Code
  | .seq a b => loopsAt a ++ loopsAt b
  | .cond _ a b => loopsAt a ++ loopsAt b
  | .block _ c => loopsAt c
  | .scope c => loopsAt c
  | .loop c => loopsAt c ++ [c]
  | .rangeFunc _ _ a b => loopsAt a ++ loopsAt b
  | _ => []

/-- the ranges over functions of a code -/
def rangesAt : Code → List (Code × Code)
  | .seq a b => rangesAt a ++ rangesAt b
  | .cond _ a b => rangesAt a ++ rangesAt b
  | .block _ c => rangesAt c
  | .scope c => rangesAt c
  | .loop c => rangesAt c
  | .rangeFunc _ _ a b => (a, b) :: (rangesAt a ++ rangesAt b)
  | _ => []

/-- what comes second in a code, each -/
def cutsAt : Code → List Code
  | .seq a b => cutsAt a ++ (b :: cutsAt b)
  | .cond _ a b => cutsAt a ++ cutsAt b
  | .block _ c => cutsAt c
  | .scope c => cutsAt c
  | .loop c => cutsAt c
  | .rangeFunc _ _ a b => cutsAt a ++ cutsAt b
  | _ => []

/-- of no piece of a code anything is known -/
def noCuts (E : Env) (f : FuncId) (c : Code) : Bool := (cutsAt c).all fun d => (E.lp f (800000 + firstRegion d)).isNone

theorem loopsOkX_at {R : Type} {E : Env} {x : ExecFn R} {xd : Side} {f : FuncId} : ∀ c : Code, (∀ x ∈ rangesAt c, E.rf f (firstRegion x.2) = true → rfTab f (firstRegion x.2) = some x) → (∀ d ∈ loopsAt c, ∀ L, E.lp f (firstRegion d) = some L → L.dep.ble E.dp = true → LoopOkX E x xd f d L) →
    (∀ d ∈ cutsAt c, ∀ L, E.lp f (800000 + firstRegion d) = some L → L.dep.ble E.dp = true → CutOkX E x xd f d L) → loopsOkX E x xd f c
  | .seq a b, g, h, k => ⟨⟨loopsOkX_at a (fun d hd => g d (List.mem_append.2 (.inl hd))) (fun d hd => h d (List.mem_append.2 (.inl hd))) fun d hd => k d (List.mem_append.2 (.inl hd)), k b (List.mem_append.2 (.inr List.mem_cons_self))⟩,
      loopsOkX_at b (fun d hd => g d (List.mem_append.2 (.inr hd))) (fun d hd => h d (List.mem_append.2 (.inr hd))) fun d hd => k d (List.mem_append.2 (.inr (List.mem_cons_of_mem _ hd)))⟩
  | .cond _ a b, g, h, k => ⟨loopsOkX_at a (fun d hd => g d (List.mem_append.2 (.inl hd))) (fun d hd => h d (List.mem_append.2 (.inl hd))) fun d hd => k d (List.mem_append.2 (.inl hd)), loopsOkX_at b (fun d hd => g d (List.mem_append.2 (.inr hd))) (fun d hd => h d (List.mem_append.2 (.inr hd))) fun d hd => k d (List.mem_append.2 (.inr hd))⟩
  | .block _ c, g, h, k => loopsOkX_at (E := E) c g h k
  | .scope c, g, h, k => loopsOkX_at (E := E) c g h k
  | .loop c, g, h, k => ⟨loopsOkX_at c g (fun d hd => h d (List.mem_append.2 (.inl hd))) k, h c (List.mem_append.2 (.inr (List.mem_singleton.2 rfl)))⟩
  | .rangeFunc _ _ a b, g, h, k => ⟨loopsOkX_at a (fun d hd => g d (List.mem_cons_of_mem _ (List.mem_append.2 (.inl hd)))) (fun d hd => h d (List.mem_append.2 (.inl hd))) fun d hd => k d (List.mem_append.2 (.inl hd)),
      loopsOkX_at b (fun d hd => g d (List.mem_cons_of_mem _ (List.mem_append.2 (.inr hd)))) (fun d hd => h d (List.mem_append.2 (.inr hd))) fun d hd => k d (List.mem_append.2 (.inr hd)), g (a, b) List.mem_cons_self⟩
  | .skip, _, _, _ | .label _, _, _, _ | .region _ _ _, _, _, _ | .exit _, _, _, _ | .goto _, _, _, _ | .ret, _, _, _ | .refuse _, _, _, _ => trivial

theorem loopsOk_at3 {E : Env} {f : FuncId} (c : Code) (g : ∀ x ∈ rangesAt c, E.rf f (firstRegion x.2) = true → rfTab f (firstRegion x.2) = some x) (h : ∀ d ∈ loopsAt c, ∀ L, E.lp f (firstRegion d) = some L → LoopOk E f d L)
    (k : ∀ d ∈ cutsAt c, ∀ L, E.lp f (800000 + firstRegion d) = some L → CutOk E f d L) : loopsOk E f c := fun R m =>
  loopsOkX_at (E := E.at m) c g (fun d hd L hL hdp => by
    have h2 := h d hd L hL R (m - L.dep)
    rw [show m - L.dep + L.dep = m from Nat.sub_add_cancel (Nat.le_of_ble_eq_true (m := m) hdp)] at h2
    exact h2) fun d hd L hL hdp => by
    have h2 := k d hd L hL R (m - L.dep)
    rw [show m - L.dep + L.dep = m from Nat.sub_add_cancel (Nat.le_of_ble_eq_true (m := m) hdp)] at h2
    exact h2

theorem noCuts_ok {E : Env} {f : FuncId} {c : Code} (h : noCuts E f c = true) : ∀ d ∈ cutsAt c, ∀ L, E.lp f (800000 + firstRegion d) = some L → CutOk E f d L := fun d hd L hL => by
  have := List.all_eq_true.1 h d hd
  rw [hL] at this; cases this

/-- the pieces of which something is known -/
def knownCuts (E : Env) (f : FuncId) (c : Code) : List Code := (cutsAt c).filter fun d => (E.lp f (800000 + firstRegion d)).isSome

theorem knownCuts_ok {E : Env} {f : FuncId} {c : Code} (h : ∀ d ∈ knownCuts E f c, ∀ L, E.lp f (800000 + firstRegion d) = some L → CutOk E f d L) : ∀ d ∈ cutsAt c, ∀ L, E.lp f (800000 + firstRegion d) = some L → CutOk E f d L := fun d hd L hL =>
  h d (List.mem_filter.2 ⟨hd, by rw [hL]; rfl⟩) L hL

theorem loopsOk_at2 {E : Env} {f : FuncId} (c : Code) (g : ∀ x ∈ rangesAt c, E.rf f (firstRegion x.2) = true → rfTab f (firstRegion x.2) = some x) (h : ∀ d ∈ loopsAt c, ∀ L, E.lp f (firstRegion d) = some L → LoopOk E f d L) (k : noCuts E f c = true := by kernel_rfl) : loopsOk E f c :=
  loopsOk_at3 c g h (noCuts_ok k)

theorem loopsOk_at {E : Env} {f : FuncId} (c : Code) (hrf : ∀ id, E.rf f id = false) (h : ∀ d ∈ loopsAt c, ∀ L, E.lp f (firstRegion d) = some L → LoopOk E f d L) (k : noCuts E f c = true := by kernel_rfl) : loopsOk E f c :=
  loopsOk_at2 c (fun x _ hx => by rw [hrf] at hx; cases hx) h k

theorem obind_cond {α β : Type} (b : Bool) (x y : Option α) (k : α → Option β) : obind (bif b then x else y) k = bif b then obind x k else obind y k := by cases b <;> rfl
theorem obind_none {α β : Type} (k : α → Option β) : obind none k = none := rfl
theorem obind_some {α β : Type} (x : α) (k : α → Option β) : obind (some x) k = k x := rfl
theorem obind_obind {α β γ : Type} (x : Option α) (k : α → Option β) (l : β → Option γ) : obind (obind x k) l = obind x fun a => obind (k a) l := by cases x <;> rfl
theorem osum_inl {α β γ : Type} (a : α) (f : α → γ) (g : β → γ) : osum (.inl a) f g = f a := rfl
theorem osum_inr {α β γ : Type} (b : β) (f : α → γ) (g : β → γ) : osum (.inr b) f g = g b := rfl
theorem obind_osum {α β γ δ : Type} (o : α ⊕ β) (f : α → Option γ) (g : β → Option γ) (k : γ → Option δ) : obind (osum o f g) k = osum o (fun a => obind (f a) k) fun b => obind (g b) k := by cases o <;> rfl
end Go.Proofs.YtnmaceljkegenaaDoor
