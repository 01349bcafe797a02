/-
  The plain functions of some functions of the program, and that they are computed.
-/
import Derived.Test.YtfeklnaeolangaaFa
namespace Go.Proofs.Ytfeklnaeolangaa
open Go.RowKit
set_option linter.unusedVariables false
set_option linter.unusedSimpArgs false
set_option maxRecDepth 100000

/-! ### quillwort/quillwortlaw11.right -/
def fn16 (x0 : List (Int × Int × Int × Int × Unit)) : Option (Bool × Unit) :=
  bif (ltI 0 (lenI x0)) then
    bif (leI (lenI x0) 40) then
      bif (inI x0 0) then
        obind (fn12 x0 (getI x0 (0, (0, (0, (0, ())))) 0).2.2.1) fun y0 =>
          some (y0.1, ())
      else
      none
    else
    some (false, ())
  else
  some (false, ())
def sum16 : Sum := (⟨[.list (.pair (.int .i64) (.pair (.int .i64) (.pair (.int .i64) (.pair (.int .i64) .unit))))], [(.bool, false)], fun x => fn16 x.1⟩ : Sum)
noncomputable def env16 : Env := envOf Try.prog tt 16 [(12, sum12)] [] []
theorem run16 (x0 : List (Int × Int × Int × Int × Unit)) : runF env16 16 [.list (.pair (.int .i64) (.pair (.int .i64) (.pair (.int .i64) (.pair (.int .i64) .unit))))] [(.bool, false)] (x0, ()) = fn16 x0 := by kernel_rfl
theorem env16_ok : EnvOk env16 := envOf_ok tok mixed noGor (sg := [(12, sum12)]) (List.forall_mem_cons.2 ⟨(sum12_ok), (fun _ h => absurd h List.not_mem_nil)⟩) (fn := Try.f16) (c := (Try.f16.body).getD .skip) (by kernel_rfl) (by kernel_rfl) (loopsOk_none (fun _ => rfl) _)
theorem sum16_ok : SumOk Try.prog 16 sum16 := sum_of_run env16_ok (by decide) fun x y h => (run16 (x.1)).trans h

/-! ### quillwort/tree.Cover -/
noncomputable def b17 : Code := (Try.f17.body).getD .skip
noncomputable def c17_2 : Code := cA (cA (cB (cA (cB (b17)))))
def k17_2 : Keep := ⟨[0, 1, 5, 100002], [], [], [], [4], []⟩
def p17_2 : SP := ⟨us [.v (.list (.pair (.int .i64) (.pair (.int .i64) (.pair (.int .i64) (.pair (.int .i64) .unit))))), .v (.int .i64), .u, .u, .u, .v (.int .i64)] 24, []⟩
def pa17_2 : SP := ⟨us [] 30, []⟩
def pb17_2 : SP := ⟨us [.u, .u, .u, .u, .v (.int .i64)] 25, []⟩
def st17_2 {γ : Type} (rec : (List (Int × Int × Int × Int × Unit)) → Int → Int → Option γ) (kE : Option γ) (kR : Int → Option γ) (v0 : List (Int × Int × Int × Int × Unit)) (v1 : Int) (v2 : Int) : Option γ :=
  bif (leI 0 v2) then
    bif (inI v0 v2) then
      bif (leI (getI v0 (0, (0, (0, (0, ())))) v2).2.1 v1) then
        bif (inI v0 v2) then
          bif (ltI v1 (getI v0 (0, (0, (0, (0, ())))) v2).2.2.1) then
            kR v2
          else
          rec v0 v1 (subK .i64 v2 1)
        else
        none
      else
      rec v0 v1 (subK .i64 v2 1)
    else
    none
  else
  kE 
def lp17_2 : Nat → (List (Int × Int × Int × Int × Unit)) → Int → Int → Option (pa17_2.den ⊕ pb17_2.den)
  | 0, _, _, _ => none
  | n + 1, v0, v1, v2 => st17_2 (lp17_2 n) (some (.inl ((), ()))) (fun r0 => some (.inr ((r0, ()), ()))) v0 v1 v2
def ls17_2 : LoopSum := loopBy k17_2 p17_2 pa17_2 pb17_2 (.exit 0) fun v => lp17_2 fuelN v.1.1 v.1.2.1 v.1.2.2.1
def fn17 (x0 : List (Int × Int × Int × Int × Unit)) (x1 : Int) : Option (Int × Unit) :=
  obind (lp17_2 fuelN x0 x1 (subK .i64 (lenI x0) 1)) fun y0 =>
    osum y0 (fun a1 =>
      some ((-1), ())) (fun b1 =>
      some (b1.1.1, ()))
def sum17 : Sum := (⟨[.list (.pair (.int .i64) (.pair (.int .i64) (.pair (.int .i64) (.pair (.int .i64) .unit)))), .int .i64], [(.int .i64, false)], fun x => fn17 x.1 x.2.1⟩ : Sum)
noncomputable def env17 : Env := envOf Try.prog tt 17 [] [(2, k17_2)] [(2, ls17_2)]
theorem step17_2 {R : Type} (x : ExecFn R) (xd : Job → St → Option AVal) (n : Nat) (K : Ex → St → Option R) (v0 : List (Int × Int × Int × Int × Unit)) (v1 : Int) (v2 : Int) :
    iter (some k17_2) (run env17 x xd 17 c17_2) (n + 1) (mkSt p17_2 ((v0, v1, v2, ()), ())) K =
      st17_2 (fun v0 v1 v2 => iter (some k17_2) (run env17 x xd 17 c17_2) n (mkSt p17_2 ((v0, v1, v2, ()), ())) K) (K (.exit 0) (mkSt pa17_2 ((), ()))) (fun r0 => K .ret (mkSt pb17_2 ((r0, ()), ()))) v0 v1 v2 := by kernel_rfl
theorem it17_2 {R : Type} (x : ExecFn R) (xd : Job → St → Option AVal) (K : Ex → St → Option R) : ∀ (n : Nat) (v0 : List (Int × Int × Int × Int × Unit)) (v1 : Int) (v2 : Int),
    iter (some k17_2) (run env17 x xd 17 c17_2) n (mkSt p17_2 ((v0, v1, v2, ()), ())) K = obind (lp17_2 n v0 v1 v2) fun o => osum o (fun a => K (.exit 0) (mkSt pa17_2 a)) fun b => K .ret (mkSt pb17_2 b)
  | 0, _, _, _ => rfl
  | n + 1, v0, v1, v2 => by
    rw [step17_2]
    simp only [it17_2 x xd K n, lp17_2, st17_2, obind_cond, obind_none, obind_some, obind_obind, obind_osum]
    try simp only [osum]
theorem ok17_2 : LoopOk env17 17 c17_2 ls17_2 := loopBy_ok (by kernel_rfl) fun R x xd K v o h => ⟨fuelN, (it17_2 x xd K fuelN (v.1.1) (v.1.2.1) (v.1.2.2.1)).trans (congrArg (fun o => obind o _) h)⟩
theorem run17 (x0 : List (Int × Int × Int × Int × Unit)) (x1 : Int) : runF env17 17 [.list (.pair (.int .i64) (.pair (.int .i64) (.pair (.int .i64) (.pair (.int .i64) .unit)))), .int .i64] [(.int .i64, false)] (x0, x1, ()) = fn17 x0 x1 := by kernel_rfl
theorem lat17 : loopsAt b17 = [c17_2] := by kernel_rfl
theorem lok17 : loopsOk env17 17 b17 := loopsOk_at b17 (by rw [lat17]; exact (List.forall_mem_cons.2 ⟨(fun L h => by rw [show env17.lp 17 (firstRegion c17_2) = some ls17_2 by kernel_rfl] at h; cases h; exact ok17_2), (fun _ h => absurd h List.not_mem_nil)⟩))
theorem env17_ok : EnvOk env17 := envOf_ok tok mixed noGor (sg := []) (fun _ h => absurd h List.not_mem_nil) (fn := Try.f17) (c := b17) (by kernel_rfl) (by kernel_rfl) lok17
theorem sum17_ok : SumOk Try.prog 17 sum17 := sum_of_run env17_ok (by decide) fun x y h => (run17 (x.1) (x.2.1)).trans h

/-! ### quillwort/quillwortlaw11.TreeCovers -/
noncomputable def b5 : Code := (Try.f5.body).getD .skip
noncomputable def c5_11 : Code := cA (cA (cB (cA (cB (cB (cB (cB (cB (cB (b5))))))))))
def k5_11 : Keep := ⟨[0, 1, 5, 6, 100011], [], [], [], [4], []⟩
def p5_11 : SP := ⟨us [.v (.list (.pair (.int .i64) (.pair (.int .i64) (.pair (.int .i64) (.pair (.int .i64) .unit))))), .v (.int .i64), .u, .u, .u, .v (.int .i64), .v (.int .i64)] 57, []⟩
def pa5_11 : SP := ⟨us [] 64, []⟩
def pb5_11 : SP := ⟨us [.u, .u, .u, .u, .v .bool] 59, []⟩
def st5_11 {γ : Type} (rec : (List (Int × Int × Int × Int × Unit)) → Int → Int → Int → Option γ) (kE : Option γ) (kR : Bool → Option γ) (v0 : List (Int × Int × Int × Int × Unit)) (v1 : Int) (v2 : Int) (v3 : Int) : Option γ :=
  bif (ltI v3 (lenI v0)) then
    bif (inI v0 v3) then
      bif (leI (getI v0 (0, (0, (0, (0, ())))) v3).2.1 v1) then
        bif (inI v0 v3) then
          obind (fn18 v0 v3 v2) fun y0 =>
            bif (!(eqB (ltI v1 (getI v0 (0, (0, (0, (0, ())))) v3).2.2.1) y0.1)) then
              kR false
            else
            rec v0 v1 v2 (addK .i64 v3 1)
        else
        none
      else
      obind (fn18 v0 v3 v2) fun y0 =>
        bif (!(eqB false y0.1)) then
          kR false
        else
        rec v0 v1 v2 (addK .i64 v3 1)
    else
    none
  else
  kE 
def lp5_11 : Nat → (List (Int × Int × Int × Int × Unit)) → Int → Int → Int → Option (pa5_11.den ⊕ pb5_11.den)
  | 0, _, _, _, _ => none
  | n + 1, v0, v1, v2, v3 => st5_11 (lp5_11 n) (some (.inl ((), ()))) (fun r0 => some (.inr ((r0, ()), ()))) v0 v1 v2 v3
def ls5_11 : LoopSum := loopBy k5_11 p5_11 pa5_11 pb5_11 (.exit 0) fun v => lp5_11 fuelN v.1.1 v.1.2.1 v.1.2.2.1 v.1.2.2.2.1
def fn5 (x0 : List (Int × Int × Int × Int × Unit)) (x1 : Int) : Option (Bool × Unit) :=
  obind (fn16 x0) fun y0 =>
    bif (!y0.1) then
      some (true, ())
    else
    obind (fn17 x0 x1) fun y1 =>
      bif (ltI x1 0) then
        some ((eqI y1.1 (-1)), ())
      else
      bif (inI x0 0) then
        bif (leI (getI x0 (0, (0, (0, (0, ())))) 0).2.2.1 x1) then
          some ((eqI y1.1 (-1)), ())
        else
        bif (ltI y1.1 0) then
          some (false, ())
        else
        bif (leI (lenI x0) y1.1) then
          some (false, ())
        else
        obind (lp5_11 fuelN x0 x1 y1.1 0) fun y2 =>
          osum y2 (fun a3 =>
            some (true, ())) (fun b3 =>
            some (b3.1.1, ()))
      else
      none
def sum5 : Sum := (⟨[.list (.pair (.int .i64) (.pair (.int .i64) (.pair (.int .i64) (.pair (.int .i64) .unit)))), .int .i64], [(.bool, false)], fun x => fn5 x.1 x.2.1⟩ : Sum)
noncomputable def env5 : Env := envOf Try.prog tt 5 [(10, sumAwake), (16, sum16), (17, sum17), (18, sum18)] [(11, k5_11)] [(11, ls5_11)]
theorem step5_11 {R : Type} (x : ExecFn R) (xd : Job → St → Option AVal) (n : Nat) (K : Ex → St → Option R) (v0 : List (Int × Int × Int × Int × Unit)) (v1 : Int) (v2 : Int) (v3 : Int) :
    iter (some k5_11) (run env5 x xd 5 c5_11) (n + 1) (mkSt p5_11 ((v0, v1, v2, v3, ()), ())) K =
      st5_11 (fun v0 v1 v2 v3 => iter (some k5_11) (run env5 x xd 5 c5_11) n (mkSt p5_11 ((v0, v1, v2, v3, ()), ())) K) (K (.exit 0) (mkSt pa5_11 ((), ()))) (fun r0 => K .ret (mkSt pb5_11 ((r0, ()), ()))) v0 v1 v2 v3 := by kernel_rfl
theorem it5_11 {R : Type} (x : ExecFn R) (xd : Job → St → Option AVal) (K : Ex → St → Option R) : ∀ (n : Nat) (v0 : List (Int × Int × Int × Int × Unit)) (v1 : Int) (v2 : Int) (v3 : Int),
    iter (some k5_11) (run env5 x xd 5 c5_11) n (mkSt p5_11 ((v0, v1, v2, v3, ()), ())) K = obind (lp5_11 n v0 v1 v2 v3) fun o => osum o (fun a => K (.exit 0) (mkSt pa5_11 a)) fun b => K .ret (mkSt pb5_11 b)
  | 0, _, _, _, _ => rfl
  | n + 1, v0, v1, v2, v3 => by
    rw [step5_11]
    simp only [it5_11 x xd K n, lp5_11, st5_11, obind_cond, obind_none, obind_some, obind_obind, obind_osum]
    try simp only [osum]
theorem ok5_11 : LoopOk env5 5 c5_11 ls5_11 := loopBy_ok (by kernel_rfl) fun R x xd K v o h => ⟨fuelN, (it5_11 x xd K fuelN (v.1.1) (v.1.2.1) (v.1.2.2.1) (v.1.2.2.2.1)).trans (congrArg (fun o => obind o _) h)⟩
theorem run5 (x0 : List (Int × Int × Int × Int × Unit)) (x1 : Int) : runF env5 5 [.list (.pair (.int .i64) (.pair (.int .i64) (.pair (.int .i64) (.pair (.int .i64) .unit)))), .int .i64] [(.bool, false)] (x0, x1, ()) = fn5 x0 x1 := by kernel_rfl
theorem lat5 : loopsAt b5 = [c5_11] := by kernel_rfl
theorem lok5 : loopsOk env5 5 b5 := loopsOk_at b5 (by rw [lat5]; exact (List.forall_mem_cons.2 ⟨(fun L h => by rw [show env5.lp 5 (firstRegion c5_11) = some ls5_11 by kernel_rfl] at h; cases h; exact ok5_11), (fun _ h => absurd h List.not_mem_nil)⟩))
theorem env5_ok : EnvOk env5 := envOf_ok tok mixed noGor (sg := [(10, sumAwake), (16, sum16), (17, sum17), (18, sum18)]) (List.forall_mem_cons.2 ⟨(sumAwake_ok), (List.forall_mem_cons.2 ⟨(sum16_ok), (List.forall_mem_cons.2 ⟨(sum17_ok), (List.forall_mem_cons.2 ⟨(sum18_ok), (fun _ h => absurd h List.not_mem_nil)⟩)⟩)⟩)⟩) (fn := Try.f5) (c := b5) (by kernel_rfl) (by kernel_rfl) lok5
theorem sum5_ok : SumOk Try.prog 5 sum5 := sum_of_run env5_ok (by decide) fun x y h => (run5 (x.1) (x.2.1)).trans h

end Go.Proofs.Ytfeklnaeolangaa
