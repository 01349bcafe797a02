/-
  The plain machine: the same steps for every loop and every function, said once.
-/
import Derived.Test.YtnmaceljkegenaaDoorBe
namespace Go.Proofs.YtnmaceljkegenaaDoor
open Go.RowKit
set_option linter.unusedVariables false

theorem lpS {E : Env} {f : FuncId} {c : Code} {k : Keep} {l la lb : SP} {ex exb : Ex} {D : Nat} {lp : Nat → l.den → Option (la.den ⊕ lb.den)}
    (st : {γ : Type} → (l.den → Option γ) → (la.den → Option γ) → (lb.den → Option γ) → l.den → Option γ)
    (hk : E.kp f (firstRegion c) = some k) (h0 : ∀ v, lp 0 v = none) (hs : ∀ n v, lp (n + 1) v = st (lp n) (fun e => some (.inl e)) (fun r => some (.inr r)) v)
    (h1 : ∀ {R : Type} (d n : Nat) (K : Ex → St → Option R) (v : l.den), iter (some k) (runD E (d + D) f c) (n + 1) (mkSt l v) K = st (fun v => iter (some k) (runD E (d + D) f c) n (mkSt l v) K) (fun e => K ex (mkSt la e)) (fun r => K exb (mkSt lb r)) v)
    (h2 : ∀ {γ δ : Type} (x : l.den → Option γ) (y : la.den → Option γ) (z : lb.den → Option γ) (v : l.den) (K : γ → Option δ), obind (st x y z v) K = st (fun v => obind (x v) K) (fun e => obind (y e) K) (fun r => obind (z r) K) v) :
    LoopOk E f c (loopBy k l la lb ex (fun v => lp fuelN v) D exb) := by
  refine loopBy_ok hk fun R d K v o h => ⟨fuelN, ?_⟩
  have it : ∀ (n : Nat) (v : l.den), iter (some k) (runD E (d + D) f c) n (mkSt l v) K = obind (lp n v) fun o => osum o (fun a => K ex (mkSt la a)) fun b => K exb (mkSt lb b) := by
    intro n
    induction n with
    | zero => intro v; rw [h0]; rfl
    | succ n ih => intro v; rw [h1, hs, h2, funext ih]; rfl
  exact (it fuelN v).trans (congrArg (fun o => obind o _) h)

theorem lpS2 {E : Env} {f : FuncId} {c : Code} {k : Keep} {l la lb : SQ} {ex exb : Ex} {D : Nat} {lp : Nat → l.den → Option (la.den ⊕ lb.den)}
    (st : {γ : Type} → (l.den → Option γ) → (la.den → Option γ) → (lb.den → Option γ) → l.den → Option γ)
    (hk : E.kp f (firstRegion c) = some k) (h0 : ∀ v, lp 0 v = none) (hs : ∀ n v, lp (n + 1) v = st (lp n) (fun e => some (.inl e)) (fun r => some (.inr r)) v)
    (h1 : ∀ {R : Type} (d n : Nat) (K : Ex → St → Option R) (v : l.den), iter (some k) (runD E (d + D) f c) (n + 1) (mkSt2 l v) K = st (fun v => iter (some k) (runD E (d + D) f c) n (mkSt2 l v) K) (fun e => K ex (mkSt2 la e)) (fun r => K exb (mkSt2 lb r)) v)
    (h2 : ∀ {γ δ : Type} (x : l.den → Option γ) (y : la.den → Option γ) (z : lb.den → Option γ) (v : l.den) (K : γ → Option δ), obind (st x y z v) K = st (fun v => obind (x v) K) (fun e => obind (y e) K) (fun r => obind (z r) K) v) :
    LoopOk E f c (loopBy2 k l la lb ex (fun v => lp fuelN v) D exb) := by
  refine loopBy2_ok hk fun R d K v o h => ⟨fuelN, ?_⟩
  have it : ∀ (n : Nat) (v : l.den), iter (some k) (runD E (d + D) f c) n (mkSt2 l v) K = obind (lp n v) fun o => osum o (fun a => K ex (mkSt2 la a)) fun b => K exb (mkSt2 lb b) := by
    intro n
    induction n with
    | zero => intro v; rw [h0]; rfl
    | succ n ih => intro v; rw [h1, hs, h2, funext ih]; rfl
  exact (it fuelN v).trans (congrArg (fun o => obind o _) h)

theorem sumR {E : Env} (hE : EnvOk E) {g : FuncId} {s : Sum} (hn : news s.rs ≤ 1) (h : ∀ x, runF E g s.ps s.rs x = s.f x) : SumOk E.P g s :=
  sum_of_run hE hn fun x y hy => (h x).trans hy

theorem fL {E : Env} {f : FuncId} {c : Code} {L : LoopSum} (h1 : E.lp f (firstRegion c) = some L) (h2 : LoopOk E f c L) : ∀ L', E.lp f (firstRegion c) = some L' → LoopOk E f c L' := fun L' h => by
  rw [h1] at h; cases h; exact h2
theorem fC {E : Env} {f : FuncId} {c : Code} {L : LoopSum} (h1 : E.lp f (800000 + firstRegion c) = some L) (h2 : CutOk E f c L) : ∀ L', E.lp f (800000 + firstRegion c) = some L' → CutOk E f c L' := fun L' h => by
  rw [h1] at h; cases h; exact h2
theorem aC {α : Type} {p : α → Prop} {a : α} {l : List α} (h : p a ∧ ∀ x ∈ l, p x) : ∀ x ∈ a :: l, p x := List.forall_mem_cons.2 h
theorem aN {α : Type} {p : α → Prop} : ∀ x ∈ ([] : List α), p x := fun _ h => absurd h List.not_mem_nil
end Go.Proofs.YtnmaceljkegenaaDoor
