/-
  The plain functions of some functions of the program, and that they are computed.
-/
import Derived.Test.YtfeklnaeolangaaFb
namespace Go.Proofs.Ytfeklnaeolangaa
open Go.RowKit
set_option linter.unusedVariables false
set_option linter.unusedSimpArgs false
set_option maxRecDepth 100000

/-! ### quillwort/tree.is -/
def fn31 (x0 : List (Int × Int × Int × Int × Unit)) (x1 : Int) : Option (Bool × Unit) :=
  bif (leI 0 x1) then
    some ((ltI x1 (lenI x0)), ())
  else
  some (false, ())
def sum31 : Sum := (⟨[.list (.pair (.int .i64) (.pair (.int .i64) (.pair (.int .i64) (.pair (.int .i64) .unit)))), .int .i64], [(.bool, false)], fun x => fn31 x.1 x.2.1⟩ : Sum)
noncomputable def env31 : Env := envOf Try.prog tt 31 [] [] []
theorem run31 (x0 : List (Int × Int × Int × Int × Unit)) (x1 : Int) : runF env31 31 [.list (.pair (.int .i64) (.pair (.int .i64) (.pair (.int .i64) (.pair (.int .i64) .unit)))), .int .i64] [(.bool, false)] (x0, x1, ()) = fn31 x0 x1 := by kernel_rfl
theorem env31_ok : EnvOk env31 := envOf_ok tok mixed noGor (sg := []) (fun _ h => absurd h List.not_mem_nil) (fn := Try.f31) (c := (Try.f31.body).getD .skip) (by kernel_rfl) (by kernel_rfl) (loopsOk_none (fun _ => rfl) _)
theorem sum31_ok : SumOk Try.prog 31 sum31 := sum_of_run env31_ok (by decide) fun x y h => (run31 (x.1) (x.2.1)).trans h

/-! ### quillwort/tree.End -/
noncomputable def b23 : Code := (Try.f23.body).getD .skip
noncomputable def c23_4 : Code := cA (cA (cA (cB (cB (cB (b23))))))
def k23_4 : Keep := ⟨[0, 1, 5, 100004], [], [5], [], [4], []⟩
def p23_4 : SP := ⟨us [.v (.list (.pair (.int .i64) (.pair (.int .i64) (.pair (.int .i64) (.pair (.int .i64) .unit))))), .v (.int .i64), .u, .u, .u, .v (.int .i64)] 22, []⟩
def pa23_4 : SP := ⟨us [.u, .u, .u, .u, .u, .v (.int .i64)] 22, []⟩
def pb23_4 : SP := ⟨us [.u, .u, .u, .u, .v (.int .i64)] 23, []⟩
def st23_4 {γ : Type} (rec : (List (Int × Int × Int × Int × Unit)) → Int → Int → Option γ) (kE : Int → Option γ) (kR : Int → Option γ) (v0 : List (Int × Int × Int × Int × Unit)) (v1 : Int) (v2 : Int) : Option γ :=
  bif (ltI v2 (lenI v0)) then
    bif (inI v0 v2) then
      bif (leI v1 (getI v0 (0, (0, (0, (0, ())))) v2).2.2.2.1) then
        rec v0 v1 (addK .i64 v2 1)
      else
      kE v2
    else
    none
  else
  kE v2
def lp23_4 : Nat → (List (Int × Int × Int × Int × Unit)) → Int → Int → Option (pa23_4.den ⊕ pb23_4.den)
  | 0, _, _, _ => none
  | n + 1, v0, v1, v2 => st23_4 (lp23_4 n) (fun e0 => some (.inl ((e0, ()), ()))) (fun r0 => some (.inr ((r0, ()), ()))) v0 v1 v2
def ls23_4 : LoopSum := loopBy k23_4 p23_4 pa23_4 pb23_4 (.exit 0) fun v => lp23_4 fuelN v.1.1 v.1.2.1 v.1.2.2.1
def fn23 (x0 : List (Int × Int × Int × Int × Unit)) (x1 : Int) : Option (Int × Unit) :=
  obind (fn31 x0 x1) fun y0 =>
    bif (!y0.1) then
      some (0, ())
    else
    obind (lp23_4 fuelN x0 x1 (addK .i64 x1 1)) fun y1 =>
      osum y1 (fun a2 =>
        some (a2.1.1, ())) (fun b2 =>
        some (b2.1.1, ()))
def sum23 : Sum := (⟨[.list (.pair (.int .i64) (.pair (.int .i64) (.pair (.int .i64) (.pair (.int .i64) .unit)))), .int .i64], [(.int .i64, false)], fun x => fn23 x.1 x.2.1⟩ : Sum)
noncomputable def env23 : Env := envOf Try.prog tt 23 [(31, sum31)] [(4, k23_4)] [(4, ls23_4)]
theorem step23_4 {R : Type} (x : ExecFn R) (xd : Job → St → Option AVal) (n : Nat) (K : Ex → St → Option R) (v0 : List (Int × Int × Int × Int × Unit)) (v1 : Int) (v2 : Int) :
    iter (some k23_4) (run env23 x xd 23 c23_4) (n + 1) (mkSt p23_4 ((v0, v1, v2, ()), ())) K =
      st23_4 (fun v0 v1 v2 => iter (some k23_4) (run env23 x xd 23 c23_4) n (mkSt p23_4 ((v0, v1, v2, ()), ())) K) (fun e0 => K (.exit 0) (mkSt pa23_4 ((e0, ()), ()))) (fun r0 => K .ret (mkSt pb23_4 ((r0, ()), ()))) v0 v1 v2 := by kernel_rfl
theorem it23_4 {R : Type} (x : ExecFn R) (xd : Job → St → Option AVal) (K : Ex → St → Option R) : ∀ (n : Nat) (v0 : List (Int × Int × Int × Int × Unit)) (v1 : Int) (v2 : Int),
    iter (some k23_4) (run env23 x xd 23 c23_4) n (mkSt p23_4 ((v0, v1, v2, ()), ())) K = obind (lp23_4 n v0 v1 v2) fun o => osum o (fun a => K (.exit 0) (mkSt pa23_4 a)) fun b => K .ret (mkSt pb23_4 b)
  | 0, _, _, _ => rfl
  | n + 1, v0, v1, v2 => by
    rw [step23_4]
    simp only [it23_4 x xd K n, lp23_4, st23_4, obind_cond, obind_none, obind_some, obind_obind, obind_osum]
    try simp only [osum]
theorem ok23_4 : LoopOk env23 23 c23_4 ls23_4 := loopBy_ok (by kernel_rfl) fun R x xd K v o h => ⟨fuelN, (it23_4 x xd K fuelN (v.1.1) (v.1.2.1) (v.1.2.2.1)).trans (congrArg (fun o => obind o _) h)⟩
theorem run23 (x0 : List (Int × Int × Int × Int × Unit)) (x1 : Int) : runF env23 23 [.list (.pair (.int .i64) (.pair (.int .i64) (.pair (.int .i64) (.pair (.int .i64) .unit)))), .int .i64] [(.int .i64, false)] (x0, x1, ()) = fn23 x0 x1 := by kernel_rfl
theorem lat23 : loopsAt b23 = [c23_4] := by kernel_rfl
theorem lok23 : loopsOk env23 23 b23 := loopsOk_at b23 (by rw [lat23]; exact (List.forall_mem_cons.2 ⟨(fun L h => by rw [show env23.lp 23 (firstRegion c23_4) = some ls23_4 by kernel_rfl] at h; cases h; exact ok23_4), (fun _ h => absurd h List.not_mem_nil)⟩))
theorem env23_ok : EnvOk env23 := envOf_ok tok mixed noGor (sg := [(31, sum31)]) (List.forall_mem_cons.2 ⟨(sum31_ok), (fun _ h => absurd h List.not_mem_nil)⟩) (fn := Try.f23) (c := b23) (by kernel_rfl) (by kernel_rfl) lok23
theorem sum23_ok : SumOk Try.prog 23 sum23 := sum_of_run env23_ok (by decide) fun x y h => (run23 (x.1) (x.2.1)).trans h

/-! ### quillwort/tree.Kids -/
noncomputable def b21 : Code := (Try.f21.body).getD .skip
noncomputable def c21_4 : Code := cA (cA (cB (cA (cB (cB (b21))))))
def k21_4 : Keep := ⟨[1, 4, 11, 12, 13, 100004], [(4, (.int .i64))], [4], [], [4], [(4, (.int .i64))]⟩
def p21_4 : SP := ⟨us [.u, .v (.int .i64), .u, .u, .slc 1800004, .u, .u, .u, .u, .u, .u, .v (.list (.pair (.int .i64) (.pair (.int .i64) (.pair (.int .i64) (.pair (.int .i64) .unit))))), .v (.int .i64), .v (.int .i64)] 14, [.arr 1800004 (.int .i64)]⟩
def pa21_4 : SP := ⟨us [.u, .u, .u, .u, .slc 1800004] 23, [.arr 1800004 (.int .i64)]⟩
def pb21_4 : SP := ⟨us [.u, .u, .u, .u, .v (.list (.int .i64))] 23, []⟩
def st21_4 {γ : Type} (rec : Int → (List (Int × Int × Int × Int × Unit)) → Int → Int → (List (Int)) → Option γ) (kE : (List (Int)) → Option γ) (kR : (List (Int)) → Option γ) (v0 : Int) (v1 : List (Int × Int × Int × Int × Unit)) (v2 : Int) (v3 : Int) (v4 : List (Int)) : Option γ :=
  bif (ltI v3 v2) then
    bif (inI v1 v3) then
      bif (eqI (getI v1 (0, (0, (0, (0, ())))) v3).2.2.2.1 v0) then
        bif (fitI (catL v4 [v3]) 8) then
          rec v0 v1 v2 (addK .i64 v3 1) (catL v4 [v3])
        else
        none
      else
      rec v0 v1 v2 (addK .i64 v3 1) v4
    else
    none
  else
  kE v4
def lp21_4 : Nat → Int → (List (Int × Int × Int × Int × Unit)) → Int → Int → (List (Int)) → Option (pa21_4.den ⊕ pb21_4.den)
  | 0, _, _, _, _, _ => none
  | n + 1, v0, v1, v2, v3, v4 => st21_4 (lp21_4 n) (fun e0 => some (.inl ((), (e0, ())))) (fun r0 => some (.inr ((r0, ()), ()))) v0 v1 v2 v3 v4
def ls21_4 : LoopSum := loopBy k21_4 p21_4 pa21_4 pb21_4 (.exit 0) fun v => lp21_4 fuelN v.1.1 v.1.2.1 v.1.2.2.1 v.1.2.2.2.1 v.2.1
def fn21 (x0 : List (Int × Int × Int × Int × Unit)) (x1 : Int) : Option ((List (Int)) × Unit) :=
  obind (fn31 x0 x1) fun y0 =>
    bif (!y0.1) then
      some ([], ())
    else
    obind (lp21_4 fuelN x1 x0 (lenI x0) 0 []) fun y1 =>
      osum y1 (fun a2 =>
        some (a2.2.1, ())) (fun b2 =>
        some (b2.1.1, ()))
def sum21 : Sum := (⟨[.list (.pair (.int .i64) (.pair (.int .i64) (.pair (.int .i64) (.pair (.int .i64) .unit)))), .int .i64], [(.list (.int .i64), false)], fun x => fn21 x.1 x.2.1⟩ : Sum)
noncomputable def env21 : Env := envOf Try.prog tt 21 [(31, sum31)] [(4, k21_4)] [(4, ls21_4)]
theorem step21_4 {R : Type} (x : ExecFn R) (xd : Job → St → Option AVal) (n : Nat) (K : Ex → St → Option R) (v0 : Int) (v1 : List (Int × Int × Int × Int × Unit)) (v2 : Int) (v3 : Int) (v4 : List (Int)) :
    iter (some k21_4) (run env21 x xd 21 c21_4) (n + 1) (mkSt p21_4 ((v0, v1, v2, v3, ()), (v4, ()))) K =
      st21_4 (fun v0 v1 v2 v3 v4 => iter (some k21_4) (run env21 x xd 21 c21_4) n (mkSt p21_4 ((v0, v1, v2, v3, ()), (v4, ()))) K) (fun e0 => K (.exit 0) (mkSt pa21_4 ((), (e0, ())))) (fun r0 => K .ret (mkSt pb21_4 ((r0, ()), ()))) v0 v1 v2 v3 v4 := by kernel_rfl
theorem it21_4 {R : Type} (x : ExecFn R) (xd : Job → St → Option AVal) (K : Ex → St → Option R) : ∀ (n : Nat) (v0 : Int) (v1 : List (Int × Int × Int × Int × Unit)) (v2 : Int) (v3 : Int) (v4 : List (Int)),
    iter (some k21_4) (run env21 x xd 21 c21_4) n (mkSt p21_4 ((v0, v1, v2, v3, ()), (v4, ()))) K = obind (lp21_4 n v0 v1 v2 v3 v4) fun o => osum o (fun a => K (.exit 0) (mkSt pa21_4 a)) fun b => K .ret (mkSt pb21_4 b)
  | 0, _, _, _, _, _ => rfl
  | n + 1, v0, v1, v2, v3, v4 => by
    rw [step21_4]
    simp only [it21_4 x xd K n, lp21_4, st21_4, obind_cond, obind_none, obind_some, obind_obind, obind_osum]
    try simp only [osum]
theorem ok21_4 : LoopOk env21 21 c21_4 ls21_4 := loopBy_ok (by kernel_rfl) fun R x xd K v o h => ⟨fuelN, (it21_4 x xd K fuelN (v.1.1) (v.1.2.1) (v.1.2.2.1) (v.1.2.2.2.1) (v.2.1)).trans (congrArg (fun o => obind o _) h)⟩
theorem run21 (x0 : List (Int × Int × Int × Int × Unit)) (x1 : Int) : runF env21 21 [.list (.pair (.int .i64) (.pair (.int .i64) (.pair (.int .i64) (.pair (.int .i64) .unit)))), .int .i64] [(.list (.int .i64), false)] (x0, x1, ()) = fn21 x0 x1 := by kernel_rfl
theorem lat21 : loopsAt b21 = [c21_4] := by kernel_rfl
theorem lok21 : loopsOk env21 21 b21 := loopsOk_at b21 (by rw [lat21]; exact (List.forall_mem_cons.2 ⟨(fun L h => by rw [show env21.lp 21 (firstRegion c21_4) = some ls21_4 by kernel_rfl] at h; cases h; exact ok21_4), (fun _ h => absurd h List.not_mem_nil)⟩))
theorem env21_ok : EnvOk env21 := envOf_ok tok mixed noGor (sg := [(31, sum31)]) (List.forall_mem_cons.2 ⟨(sum31_ok), (fun _ h => absurd h List.not_mem_nil)⟩) (fn := Try.f21) (c := b21) (by kernel_rfl) (by kernel_rfl) lok21
theorem sum21_ok : SumOk Try.prog 21 sum21 := sum_of_run env21_ok (by decide) fun x y h => (run21 (x.1) (x.2.1)).trans h

/-! ### quillwort/tree.Path -/
noncomputable def b22 : Code := (Try.f22.body).getD .skip
noncomputable def b22_32 : Code := (Try.f32.body).getD .skip
noncomputable def c22_1 : Code := cA (cA (cA (cB (b22))))
noncomputable def c22_32_1 : Code := cA (cA (cB (b22_32)))
def k22_1 : Keep := ⟨[0, 1, 4, 100001], [(4, (.int .i64))], [4], [(4, (.int .i64))], [4], [(4, (.int .i64))]⟩
def k22_32_1 : Keep := ⟨[0, 2, 3, 33000001], [], [], [], [], []⟩
def p22_1 : SP := ⟨us [.v (.list (.pair (.int .i64) (.pair (.int .i64) (.pair (.int .i64) (.pair (.int .i64) .unit))))), .v (.int .i64), .u, .u, .slc 1800004] 22, [.arr 1800004 (.int .i64)]⟩
def pa22_1 : SP := ⟨us [.u, .u, .u, .u, .slc 1800004] 22, [.arr 1800004 (.int .i64)]⟩
def pb22_1 : SP := ⟨us [.u, .u, .u, .u, .v (.list (.int .i64))] 22, []⟩
def st22_1 {γ : Type} (rec : (List (Int × Int × Int × Int × Unit)) → Int → (List (Int)) → Option γ) (kE : (List (Int)) → Option γ) (kR : (List (Int)) → Option γ) (v0 : List (Int × Int × Int × Int × Unit)) (v1 : Int) (v2 : List (Int)) : Option γ :=
  obind (fn31 v0 v1) fun y0 =>
    bif y0.1 then
      bif (fitI (catL v2 [v1]) 8) then
        bif (inI v0 v1) then
          bif (leI v1 (getI v0 (0, (0, (0, (0, ())))) v1).2.2.2.1) then
            kE (catL v2 [v1])
          else
          bif (inI v0 v1) then
            rec v0 (getI v0 (0, (0, (0, (0, ())))) v1).2.2.2.1 (catL v2 [v1])
          else
          none
        else
        none
      else
      none
    else
    kE v2
def lp22_1 : Nat → (List (Int × Int × Int × Int × Unit)) → Int → (List (Int)) → Option (pa22_1.den ⊕ pb22_1.den)
  | 0, _, _, _ => none
  | n + 1, v0, v1, v2 => st22_1 (lp22_1 n) (fun e0 => some (.inl ((), (e0, ())))) (fun r0 => some (.inr ((r0, ()), ()))) v0 v1 v2
def ls22_1 : LoopSum := loopBy k22_1 p22_1 pa22_1 pb22_1 (.exit 0) fun v => lp22_1 fuelN v.1.1 v.1.2.1 v.2.1
def p22_32_1 : SQ := ⟨us [.slc 1800004, .u, .v (.int .i64), .v (.int .i64)] 24, [[.u, .u, .u, .u, .slc 1800004, .u, .u, .u, .u, .u, .u, .u, .u, .u, .u, .u, .u, .u, .u, .u, .u, .u, .u, .u, .slc 1800004, .u, .u], []], [.arr 1800004 (.int .i64)]⟩
def pa22_32_1 : SQ := ⟨us [] 28, [[.u, .u, .u, .u, .slc 1800004, .u, .u, .u, .u, .u, .u, .u, .u, .u, .u, .u, .u, .u, .u, .u, .u, .u, .u, .u, .slc 1800004, .u, .u], []], [.arr 1800004 (.int .i64)]⟩
def pb22_32_1 : SQ := ⟨us [] 28, [[.u, .u, .u, .u, .slc 1800004, .u, .u, .u, .u, .u, .u, .u, .u, .u, .u, .u, .u, .u, .u, .u, .u, .u, .u, .u, .slc 1800004, .u, .u], []], []⟩
def st22_32_1 {γ : Type} (rec : Int → Int → (List (Int)) → Option γ) (kE : (List (Int)) → Option γ) (kR : Option γ) (v0 : Int) (v1 : Int) (v2 : List (Int)) : Option γ :=
  bif (ltI v0 v1) then
    bif (inI v2 v1) then
      bif (inI v2 v0) then
        bif (ltL (natI v1) v2) then
          bif (ltL (natI v0) v2) then
            bif (inI v2 v0) then
              bif (ltL (natI v0) v2) then
                bif (inI (setI v2 (natI v0) (nthN v2 0 (natI v1))) v1) then
                  bif (ltL (natI v1) (setI v2 (natI v0) (nthN v2 0 (natI v1)))) then
                    rec (addK .i64 v0 1) (subK .i64 v1 1) (setI (setI v2 (natI v0) (nthN v2 0 (natI v1))) (natI v1) (nthN v2 0 (natI v0)))
                  else
                  none
                else
                none
              else
              none
            else
            none
          else
          none
        else
        none
      else
      none
    else
    none
  else
  kE v2
def lp22_32_1 : Nat → Int → Int → (List (Int)) → Option (pa22_32_1.den ⊕ pb22_32_1.den)
  | 0, _, _, _ => none
  | n + 1, v0, v1, v2 => st22_32_1 (lp22_32_1 n) (fun e0 => some (.inl ((), ((), (), ()), (e0, ())))) (some (.inr ((), ((), (), ()), ()))) v0 v1 v2
def ls22_32_1 : LoopSum := loopBy2 k22_32_1 p22_32_1 pa22_32_1 pb22_32_1 (.exit 0) fun v => lp22_32_1 fuelN v.1.1 v.1.2.1 v.2.2.1
def fn22 (x0 : List (Int × Int × Int × Int × Unit)) (x1 : Int) : Option ((List (Int)) × Unit) :=
  obind (lp22_1 fuelN x0 x1 []) fun y0 =>
    osum y0 (fun a1 =>
      obind (lp22_32_1 fuelN 0 (subK .i64 (lenI a1.2.1) 1) a1.2.1) fun y2 =>
        osum y2 (fun a3 =>
          some (a3.2.2.1, ())) (fun b3 =>
          none)) (fun b1 =>
      some (b1.1.1, ()))
def sum22 : Sum := (⟨[.list (.pair (.int .i64) (.pair (.int .i64) (.pair (.int .i64) (.pair (.int .i64) .unit)))), .int .i64], [(.list (.int .i64), false)], fun x => fn22 x.1 x.2.1⟩ : Sum)
noncomputable def env22 : Env := envOf2 Try.prog tt [(31, sum31)] [(22, 1, k22_1), (32, 1, k22_32_1)] [(22, 1, ls22_1), (32, 1, ls22_32_1)]
theorem step22_1 {R : Type} (x : ExecFn R) (xd : Job → St → Option AVal) (n : Nat) (K : Ex → St → Option R) (v0 : List (Int × Int × Int × Int × Unit)) (v1 : Int) (v2 : List (Int)) :
    iter (some k22_1) (run env22 x xd 22 c22_1) (n + 1) (mkSt p22_1 ((v0, v1, ()), (v2, ()))) K =
      st22_1 (fun v0 v1 v2 => iter (some k22_1) (run env22 x xd 22 c22_1) n (mkSt p22_1 ((v0, v1, ()), (v2, ()))) K) (fun e0 => K (.exit 0) (mkSt pa22_1 ((), (e0, ())))) (fun r0 => K .ret (mkSt pb22_1 ((r0, ()), ()))) v0 v1 v2 := by kernel_rfl
theorem it22_1 {R : Type} (x : ExecFn R) (xd : Job → St → Option AVal) (K : Ex → St → Option R) : ∀ (n : Nat) (v0 : List (Int × Int × Int × Int × Unit)) (v1 : Int) (v2 : List (Int)),
    iter (some k22_1) (run env22 x xd 22 c22_1) n (mkSt p22_1 ((v0, v1, ()), (v2, ()))) K = obind (lp22_1 n v0 v1 v2) fun o => osum o (fun a => K (.exit 0) (mkSt pa22_1 a)) fun b => K .ret (mkSt pb22_1 b)
  | 0, _, _, _ => rfl
  | n + 1, v0, v1, v2 => by
    rw [step22_1]
    simp only [it22_1 x xd K n, lp22_1, st22_1, obind_cond, obind_none, obind_some, obind_obind, obind_osum]
    try simp only [osum]
theorem ok22_1 : LoopOk env22 22 c22_1 ls22_1 := loopBy_ok (by kernel_rfl) fun R x xd K v o h => ⟨fuelN, (it22_1 x xd K fuelN (v.1.1) (v.1.2.1) (v.2.1)).trans (congrArg (fun o => obind o _) h)⟩
theorem step22_32_1 {R : Type} (x : ExecFn R) (xd : Job → St → Option AVal) (n : Nat) (K : Ex → St → Option R) (v0 : Int) (v1 : Int) (v2 : List (Int)) :
    iter (some k22_32_1) (run env22 x xd 32 c22_32_1) (n + 1) (mkSt2 p22_32_1 ((v0, v1, ()), ((), (), ()), (v2, ()))) K =
      st22_32_1 (fun v0 v1 v2 => iter (some k22_32_1) (run env22 x xd 32 c22_32_1) n (mkSt2 p22_32_1 ((v0, v1, ()), ((), (), ()), (v2, ()))) K) (fun e0 => K (.exit 0) (mkSt2 pa22_32_1 ((), ((), (), ()), (e0, ())))) (K .ret (mkSt2 pb22_32_1 ((), ((), (), ()), ()))) v0 v1 v2 := by kernel_rfl
theorem it22_32_1 {R : Type} (x : ExecFn R) (xd : Job → St → Option AVal) (K : Ex → St → Option R) : ∀ (n : Nat) (v0 : Int) (v1 : Int) (v2 : List (Int)),
    iter (some k22_32_1) (run env22 x xd 32 c22_32_1) n (mkSt2 p22_32_1 ((v0, v1, ()), ((), (), ()), (v2, ()))) K = obind (lp22_32_1 n v0 v1 v2) fun o => osum o (fun a => K (.exit 0) (mkSt2 pa22_32_1 a)) fun b => K .ret (mkSt2 pb22_32_1 b)
  | 0, _, _, _ => rfl
  | n + 1, v0, v1, v2 => by
    rw [step22_32_1]
    simp only [it22_32_1 x xd K n, lp22_32_1, st22_32_1, obind_cond, obind_none, obind_some, obind_obind, obind_osum]
    try simp only [osum]
theorem ok22_32_1 : LoopOk env22 32 c22_32_1 ls22_32_1 := loopBy2_ok (by kernel_rfl) fun R x xd K v o h => ⟨fuelN, (it22_32_1 x xd K fuelN (v.1.1) (v.1.2.1) (v.2.2.1)).trans (congrArg (fun o => obind o _) h)⟩
theorem run22 (x0 : List (Int × Int × Int × Int × Unit)) (x1 : Int) : runF env22 22 [.list (.pair (.int .i64) (.pair (.int .i64) (.pair (.int .i64) (.pair (.int .i64) .unit)))), .int .i64] [(.list (.int .i64), false)] (x0, x1, ()) = fn22 x0 x1 := by kernel_rfl
theorem lat22 : loopsAt b22 = [c22_1] := by kernel_rfl
theorem lok22 : loopsOk env22 22 b22 := loopsOk_at b22 (by rw [lat22]; exact (List.forall_mem_cons.2 ⟨(fun L h => by rw [show env22.lp 22 (firstRegion c22_1) = some ls22_1 by kernel_rfl] at h; cases h; exact ok22_1), (fun _ h => absurd h List.not_mem_nil)⟩))
theorem lat22_32 : loopsAt b22_32 = [c22_32_1] := by kernel_rfl
theorem lok22_32 : loopsOk env22 32 b22_32 := loopsOk_at b22_32 (by rw [lat22_32]; exact (List.forall_mem_cons.2 ⟨(fun L h => by rw [show env22.lp 32 (firstRegion c22_32_1) = some ls22_32_1 by kernel_rfl] at h; cases h; exact ok22_32_1), (fun _ h => absurd h List.not_mem_nil)⟩))
theorem env22_ok : EnvOk env22 := envOf2_ok tok mixed noGor (sg := [(31, sum31)]) (List.forall_mem_cons.2 ⟨(sum31_ok), (fun _ h => absurd h List.not_mem_nil)⟩) [22, 32] (by kernel_rfl) (List.forall_mem_cons.2 ⟨⟨Try.f22, b22, by kernel_rfl, by kernel_rfl, lok22⟩, (List.forall_mem_cons.2 ⟨⟨Try.f32, b22_32, by kernel_rfl, by kernel_rfl, lok22_32⟩, (fun _ h => absurd h List.not_mem_nil)⟩)⟩)
theorem sum22_ok : SumOk Try.prog 22 sum22 := sum_of_run env22_ok (by decide) fun x y h => (run22 (x.1) (x.2.1)).trans h

/-! ### quillwort/quillwortlaw11.TreeKids -/
noncomputable def b8 : Code := (Try.f8.body).getD .skip
noncomputable def c8_13 : Code := cA (cA (cB (cA (cB (cB (cB (cB (cB (cB (cB (cB (cB (b8)))))))))))))
def k8_13 : Keep := ⟨[0, 1, 5, 6, 7, 8, 9, 10, 100013], [], [0, 1, 5, 6, 7, 8, 9], [], [4], []⟩
def p8_13 : SP := ⟨us [.v (.list (.pair (.int .i64) (.pair (.int .i64) (.pair (.int .i64) (.pair (.int .i64) .unit))))), .v (.int .i64), .u, .u, .u, .v (.list (.int .i64)), .v (.list (.int .i64)), .v (.int .i64), .v (.int .i64), .v (.int .i64), .v (.int .i64)] 103, []⟩
def pa8_13 : SP := ⟨us [.v (.list (.pair (.int .i64) (.pair (.int .i64) (.pair (.int .i64) (.pair (.int .i64) .unit))))), .v (.int .i64), .u, .u, .u, .v (.list (.int .i64)), .v (.list (.int .i64)), .v (.int .i64), .v (.int .i64), .v (.int .i64)] 104, []⟩
def pb8_13 : SP := ⟨us [.u, .u, .u, .u, .v .bool] 109, []⟩
def st8_13 {γ : Type} (rec : (List (Int × Int × Int × Int × Unit)) → Int → (List (Int)) → (List (Int)) → Int → Int → Int → Int → Option γ) (kE : (List (Int × Int × Int × Int × Unit)) → Int → (List (Int)) → (List (Int)) → Int → Int → Int → Option γ) (kR : Bool → Option γ) (v0 : List (Int × Int × Int × Int × Unit)) (v1 : Int) (v2 : List (Int)) (v3 : List (Int)) (v4 : Int) (v5 : Int) (v6 : Int) (v7 : Int) : Option γ :=
  bif (ltI v7 (lenI v0)) then
    bif (inI v0 v7) then
      bif (eqI (getI v0 (0, (0, (0, (0, ())))) v7).2.2.2.1 v1) then
        bif (leI (lenI v2) v4) then
          kR false
        else
        bif (inI v2 v4) then
          bif (!(eqI (getI v2 0 v4) v7)) then
            kR false
          else
          obind (fn18 v0 v7 v1) fun y0 =>
            bif y0.1 then
              bif (leI (lenI v3) v5) then
                kR false
              else
              bif (inI v3 v5) then
                bif (!(eqI (getI v3 0 v5) v7)) then
                  kR false
                else
                obind (fn18 v0 v1 v7) fun y1 =>
                  bif y1.1 then
                    rec v0 v1 v2 v3 (addK .i64 v4 1) (addK .i64 v5 1) (addK .i64 v7 1) (addK .i64 v7 1)
                  else
                  rec v0 v1 v2 v3 (addK .i64 v4 1) (addK .i64 v5 1) v6 (addK .i64 v7 1)
              else
              none
            else
            obind (fn18 v0 v1 v7) fun y1 =>
              bif y1.1 then
                rec v0 v1 v2 v3 (addK .i64 v4 1) v5 (addK .i64 v7 1) (addK .i64 v7 1)
              else
              rec v0 v1 v2 v3 (addK .i64 v4 1) v5 v6 (addK .i64 v7 1)
        else
        none
      else
      obind (fn18 v0 v7 v1) fun y0 =>
        bif y0.1 then
          bif (leI (lenI v3) v5) then
            kR false
          else
          bif (inI v3 v5) then
            bif (!(eqI (getI v3 0 v5) v7)) then
              kR false
            else
            obind (fn18 v0 v1 v7) fun y1 =>
              bif y1.1 then
                rec v0 v1 v2 v3 v4 (addK .i64 v5 1) (addK .i64 v7 1) (addK .i64 v7 1)
              else
              rec v0 v1 v2 v3 v4 (addK .i64 v5 1) v6 (addK .i64 v7 1)
          else
          none
        else
        obind (fn18 v0 v1 v7) fun y1 =>
          bif y1.1 then
            rec v0 v1 v2 v3 v4 v5 (addK .i64 v7 1) (addK .i64 v7 1)
          else
          rec v0 v1 v2 v3 v4 v5 v6 (addK .i64 v7 1)
    else
    none
  else
  kE v0 v1 v2 v3 v4 v5 v6
def lp8_13 : Nat → (List (Int × Int × Int × Int × Unit)) → Int → (List (Int)) → (List (Int)) → Int → Int → Int → Int → Option (pa8_13.den ⊕ pb8_13.den)
  | 0, _, _, _, _, _, _, _, _ => none
  | n + 1, v0, v1, v2, v3, v4, v5, v6, v7 => st8_13 (lp8_13 n) (fun e0 e1 e2 e3 e4 e5 e6 => some (.inl ((e0, e1, e2, e3, e4, e5, e6, ()), ()))) (fun r0 => some (.inr ((r0, ()), ()))) v0 v1 v2 v3 v4 v5 v6 v7
def ls8_13 : LoopSum := loopBy k8_13 p8_13 pa8_13 pb8_13 (.exit 0) fun v => lp8_13 fuelN v.1.1 v.1.2.1 v.1.2.2.1 v.1.2.2.2.1 v.1.2.2.2.2.1 v.1.2.2.2.2.2.1 v.1.2.2.2.2.2.2.1 v.1.2.2.2.2.2.2.2.1
def fn8 (x0 : List (Int × Int × Int × Int × Unit)) (x1 : Int) : Option (Bool × Unit) :=
  obind (fn16 x0) fun y0 =>
    bif (!y0.1) then
      some (true, ())
    else
    obind (fn21 x0 x1) fun y1 =>
      obind (fn22 x0 x1) fun y2 =>
        bif (ltI x1 0) then
          bif (eqI (lenI y1.1) 0) then
            bif (eqI (lenI y2.1) 0) then
              obind (fn23 x0 x1) fun y3 =>
                some ((eqI y3.1 0), ())
            else
            some (false, ())
          else
          some (false, ())
        else
        bif (leI (lenI x0) x1) then
          bif (eqI (lenI y1.1) 0) then
            bif (eqI (lenI y2.1) 0) then
              obind (fn23 x0 x1) fun y3 =>
                some ((eqI y3.1 0), ())
            else
            some (false, ())
          else
          some (false, ())
        else
        obind (lp8_13 fuelN x0 x1 y1.1 y2.1 0 0 (addK .i64 x1 1) 0) fun y3 =>
          osum y3 (fun a4 =>
            bif (eqI a4.1.2.2.2.2.1 (lenI a4.1.2.2.1)) then
              bif (eqI a4.1.2.2.2.2.2.1 (lenI a4.1.2.2.2.1)) then
                obind (fn23 a4.1.1 a4.1.2.1) fun y5 =>
                  some ((eqI y5.1 a4.1.2.2.2.2.2.2.1), ())
              else
              some (false, ())
            else
            some (false, ())) (fun b4 =>
            some (b4.1.1, ()))
def sum8 : Sum := (⟨[.list (.pair (.int .i64) (.pair (.int .i64) (.pair (.int .i64) (.pair (.int .i64) .unit)))), .int .i64], [(.bool, false)], fun x => fn8 x.1 x.2.1⟩ : Sum)
noncomputable def env8 : Env := envOf Try.prog tt 8 [(10, sumAwake), (16, sum16), (18, sum18), (21, sum21), (22, sum22), (23, sum23)] [(13, k8_13)] [(13, ls8_13)]
theorem step8_13 {R : Type} (x : ExecFn R) (xd : Job → St → Option AVal) (n : Nat) (K : Ex → St → Option R) (v0 : List (Int × Int × Int × Int × Unit)) (v1 : Int) (v2 : List (Int)) (v3 : List (Int)) (v4 : Int) (v5 : Int) (v6 : Int) (v7 : Int) :
    iter (some k8_13) (run env8 x xd 8 c8_13) (n + 1) (mkSt p8_13 ((v0, v1, v2, v3, v4, v5, v6, v7, ()), ())) K =
      st8_13 (fun v0 v1 v2 v3 v4 v5 v6 v7 => iter (some k8_13) (run env8 x xd 8 c8_13) n (mkSt p8_13 ((v0, v1, v2, v3, v4, v5, v6, v7, ()), ())) K) (fun e0 e1 e2 e3 e4 e5 e6 => K (.exit 0) (mkSt pa8_13 ((e0, e1, e2, e3, e4, e5, e6, ()), ()))) (fun r0 => K .ret (mkSt pb8_13 ((r0, ()), ()))) v0 v1 v2 v3 v4 v5 v6 v7 := by kernel_rfl
theorem it8_13 {R : Type} (x : ExecFn R) (xd : Job → St → Option AVal) (K : Ex → St → Option R) : ∀ (n : Nat) (v0 : List (Int × Int × Int × Int × Unit)) (v1 : Int) (v2 : List (Int)) (v3 : List (Int)) (v4 : Int) (v5 : Int) (v6 : Int) (v7 : Int),
    iter (some k8_13) (run env8 x xd 8 c8_13) n (mkSt p8_13 ((v0, v1, v2, v3, v4, v5, v6, v7, ()), ())) K = obind (lp8_13 n v0 v1 v2 v3 v4 v5 v6 v7) fun o => osum o (fun a => K (.exit 0) (mkSt pa8_13 a)) fun b => K .ret (mkSt pb8_13 b)
  | 0, _, _, _, _, _, _, _, _ => rfl
  | n + 1, v0, v1, v2, v3, v4, v5, v6, v7 => by
    rw [step8_13]
    simp only [it8_13 x xd K n, lp8_13, st8_13, obind_cond, obind_none, obind_some, obind_obind, obind_osum]
    try simp only [osum]
theorem ok8_13 : LoopOk env8 8 c8_13 ls8_13 := loopBy_ok (by kernel_rfl) fun R x xd K v o h => ⟨fuelN, (it8_13 x xd K fuelN (v.1.1) (v.1.2.1) (v.1.2.2.1) (v.1.2.2.2.1) (v.1.2.2.2.2.1) (v.1.2.2.2.2.2.1) (v.1.2.2.2.2.2.2.1) (v.1.2.2.2.2.2.2.2.1)).trans (congrArg (fun o => obind o _) h)⟩
theorem run8 (x0 : List (Int × Int × Int × Int × Unit)) (x1 : Int) : runF env8 8 [.list (.pair (.int .i64) (.pair (.int .i64) (.pair (.int .i64) (.pair (.int .i64) .unit)))), .int .i64] [(.bool, false)] (x0, x1, ()) = fn8 x0 x1 := by kernel_rfl
theorem lat8 : loopsAt b8 = [c8_13] := by kernel_rfl
theorem lok8 : loopsOk env8 8 b8 := loopsOk_at b8 (by rw [lat8]; exact (List.forall_mem_cons.2 ⟨(fun L h => by rw [show env8.lp 8 (firstRegion c8_13) = some ls8_13 by kernel_rfl] at h; cases h; exact ok8_13), (fun _ h => absurd h List.not_mem_nil)⟩))
theorem env8_ok : EnvOk env8 := envOf_ok tok mixed noGor (sg := [(10, sumAwake), (16, sum16), (18, sum18), (21, sum21), (22, sum22), (23, sum23)]) (List.forall_mem_cons.2 ⟨(sumAwake_ok), (List.forall_mem_cons.2 ⟨(sum16_ok), (List.forall_mem_cons.2 ⟨(sum18_ok), (List.forall_mem_cons.2 ⟨(sum21_ok), (List.forall_mem_cons.2 ⟨(sum22_ok), (List.forall_mem_cons.2 ⟨(sum23_ok), (fun _ h => absurd h List.not_mem_nil)⟩)⟩)⟩)⟩)⟩)⟩) (fn := Try.f8) (c := b8) (by kernel_rfl) (by kernel_rfl) lok8
theorem sum8_ok : SumOk Try.prog 8 sum8 := sum_of_run env8_ok (by decide) fun x y h => (run8 (x.1) (x.2.1)).trans h

end Go.Proofs.Ytfeklnaeolangaa
