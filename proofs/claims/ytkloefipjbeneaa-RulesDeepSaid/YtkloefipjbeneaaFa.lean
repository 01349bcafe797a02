/-
  The plain functions of some functions of the program, and that they are computed.
-/
import Derived.Test.YtkloefipjbeneaaE
namespace Go.Proofs.Ytkloefipjbeneaa
open Go.RowKit
set_option linter.unusedVariables false
set_option linter.unusedSimpArgs false
set_option maxRecDepth 100000

def sumAwake : Sum := ⟨[], [(.bool, false)], fun _ => some (true, ())⟩
theorem sumAwake_ok : SumOk Try.prog 9 sumAwake := sum_of_run env0_ok (by decide) fun x y h => by
  cases h
  exact (show runF env0 9 [] [(.bool, false)] () = some (true, ()) by kernel_rfl)

/-! ### quillwort/tree.fits -/
def fn60 (x0 : Int × Int × Int × Int × Unit) : Option (Bool × Unit) :=
  bif (leI 1 x0.1) then
    bif (leI x0.1 18) then
      some ((leI x0.2.1 x0.2.2.1), ())
    else
    some (false, ())
  else
  some (false, ())
def sum60 : Sum := (⟨[.pair (.int .i64) (.pair (.int .i64) (.pair (.int .i64) (.pair (.int .i64) .unit)))], [(.bool, false)], fun x => fn60 x.1⟩ : Sum)
noncomputable def env60 : Env := envOf Try.prog tt 60 [] [] []
theorem run60 (x0 : Int × Int × Int × Int × Unit) : runF env60 60 [.pair (.int .i64) (.pair (.int .i64) (.pair (.int .i64) (.pair (.int .i64) .unit)))] [(.bool, false)] (x0, ()) = fn60 x0 := by kernel_rfl
theorem env60_ok : EnvOk env60 := envOf_ok tok mixed noGor (sg := []) (fun _ h => absurd h List.not_mem_nil) (fn := Try.f60) (c := (Try.f60.body).getD .skip) (by kernel_rfl) (by kernel_rfl) (loopsOk_none (fun _ => rfl) (fun _ => rfl) _) rf_ok chk_ok
theorem sum60_ok : SumOk Try.prog 60 sum60 := sum_of_run env60_ok (by decide) fun x y h => (run60 (x.1)).trans h

/-! ### quillwort/tree.Check -/
noncomputable def b42 : Code := (Try.f42.body).getD .skip
noncomputable def c42_9 : Code := cA (cA (cA (cB (cA (cA (cB (cA (cA (cB (cA (cB (cB (cB (cB (b42)))))))))))))))
noncomputable def c42_6 : Code := cA (cA (cB (cA (cB (cB (cB (cB (b42))))))))
def k42_9 : Keep := ⟨[0, 5, 6, 7, 8, 100009], [(5, (.int .i64))], [0, 5, 6, 7, 8], [], [4], []⟩
def k42_6 : Keep := ⟨[0, 5, 6, 7, 100006], [], [], [], [4], []⟩
def p42_9 : SP := ⟨us [.v (.list (.pair (.int .i64) (.pair (.int .i64) (.pair (.int .i64) (.pair (.int .i64) .unit))))), .u, .u, .u, .u, .slc 1000041, .slc 1000044, .v (.int .i64), .ptr 1000008 0] 111, [.box 1000008 43 [.v (.int .i64), .v (.int .i64), .v (.int .i64), .v (.int .i64)], .arr 1000044 (.int .i64), .arr 1000041 (.int .i64)]⟩
def pa42_9 : SP := ⟨us [.v (.list (.pair (.int .i64) (.pair (.int .i64) (.pair (.int .i64) (.pair (.int .i64) .unit))))), .u, .u, .u, .u, .slc 1000041, .slc 1000044, .v (.int .i64), .ptr 1000008 0] 111, [.box 1000008 43 [.v (.int .i64), .v (.int .i64), .v (.int .i64), .v (.int .i64)], .arr 1000044 (.int .i64), .arr 1000041 (.int .i64)]⟩
def pb42_9 : SP := ⟨us [.u, .u, .u, .u, .v .bool] 115, []⟩
def st42_9 {γ : Type} (rec : (List (Int × Int × Int × Int × Unit)) → Int → Int → Int → Int → Int → (List (Int)) → (List (Int)) → Option γ) (kE : (List (Int × Int × Int × Int × Unit)) → Int → Int → Int → Int → Int → (List (Int)) → (List (Int)) → Option γ) (kR : Bool → Option γ) (v0 : List (Int × Int × Int × Int × Unit)) (v1 : Int) (v2 : Int) (v3 : Int) (v4 : Int) (v5 : Int) (v6 : List (Int)) (v7 : List (Int)) : Option γ :=
  bif (ltI 0 (lenI v7)) then
    bif (inI v7 (subK .i64 (lenI v7) 1)) then
      bif (ltL (natI (subK .i64 (lenI v7) 1)) v7) then
        bif (!(eqI (nthN v7 0 (natI (subK .i64 (lenI v7) 1))) v5)) then
          bif (partI (lenI v7) 0 (subK .i64 (lenI v7) 1)) then
            rec v0 v1 v2 v3 v4 v5 v6 (takeN v7 (natI (subK .i64 (lenI v7) 1)))
          else
          none
        else
        kE v0 v1 v2 v3 v4 v5 v6 v7
      else
      none
    else
    none
  else
  kE v0 v1 v2 v3 v4 v5 v6 v7
def lp42_9 : Nat → (List (Int × Int × Int × Int × Unit)) → Int → Int → Int → Int → Int → (List (Int)) → (List (Int)) → Option (pa42_9.den ⊕ pb42_9.den)
  | 0, _, _, _, _, _, _, _, _ => none
  | n + 1, v0, v1, v2, v3, v4, v5, v6, v7 => st42_9 (lp42_9 n) (fun e0 e1 e2 e3 e4 e5 e6 e7 => some (.inl ((e0, e1, ()), ((e2, e3, e4, e5, ()), e6, e7, ())))) (fun r0 => some (.inr ((r0, ()), ()))) v0 v1 v2 v3 v4 v5 v6 v7
noncomputable def ls42_9 : LoopSum := loopBy k42_9 p42_9 pa42_9 pb42_9 (.exit 2) fun v => lp42_9 fuelN v.1.1 v.1.2.1 v.2.1.1 v.2.1.2.1 v.2.1.2.2.1 v.2.1.2.2.2.1 v.2.2.1 v.2.2.2.1
def p42_6 : SP := ⟨us [.v (.list (.pair (.int .i64) (.pair (.int .i64) (.pair (.int .i64) (.pair (.int .i64) .unit))))), .u, .u, .u, .u, .slc 1000041, .slc 1000044, .v (.int .i64)] 112, [.arr 1000044 (.int .i64), .arr 1000041 (.int .i64)]⟩
def pa42_6 : SP := ⟨us [] 120, []⟩
def pb42_6 : SP := ⟨us [.u, .u, .u, .u, .v .bool] 115, []⟩
def st42_6 {γ : Type} (rec : (List (Int × Int × Int × Int × Unit)) → Int → (List (Int)) → (List (Int)) → Option γ) (kE : Option γ) (kR : Bool → Option γ) (v0 : List (Int × Int × Int × Int × Unit)) (v1 : Int) (v2 : List (Int)) (v3 : List (Int)) : Option γ :=
  bif (ltI v1 (lenI v0)) then
    bif (inI v0 v1) then
      obind (lp42_9 fuelN v0 v1 (getI v0 (0, (0, (0, (0, ())))) v1).1 (getI v0 (0, (0, (0, (0, ())))) v1).2.1 (getI v0 (0, (0, (0, (0, ())))) v1).2.2.1 (getI v0 (0, (0, (0, (0, ())))) v1).2.2.2.1 v2 v3) fun y0 =>
        osum y0 (fun a1 =>
          bif (eqI (lenI a1.2.2.2.1) 0) then
            kR false
          else
          obind (fn60 (a1.2.1.1, (a1.2.1.2.1, (a1.2.1.2.2.1, (a1.2.1.2.2.2.1, ()))))) fun y2 =>
            bif (!y2.1) then
              kR false
            else
            bif (inI a1.1.1 a1.2.1.2.2.2.1) then
              bif (inI a1.2.2.1 a1.2.1.2.2.2.1) then
                bif (ltL (natI a1.2.1.2.2.2.1) a1.2.2.1) then
                  bif (ltI a1.2.1.2.1 (maxI (getI a1.1.1 (0, (0, (0, (0, ())))) a1.2.1.2.2.2.1).2.1 (nthN a1.2.2.1 0 (natI a1.2.1.2.2.2.1)))) then
                    kR false
                  else
                  bif (inI a1.1.1 a1.2.1.2.2.2.1) then
                    bif (ltI (getI a1.1.1 (0, (0, (0, (0, ())))) a1.2.1.2.2.2.1).2.2.1 a1.2.1.2.2.1) then
                      kR false
                    else
                    bif (inI a1.2.2.1 a1.2.1.2.2.2.1) then
                      bif (ltL (natI a1.2.1.2.2.2.1) a1.2.2.1) then
                        bif (fitI (catL a1.2.2.2.1 [a1.1.2.1]) 8) then
                          rec a1.1.1 (addK .i64 a1.1.2.1 1) (setI a1.2.2.1 (natI a1.2.1.2.2.2.1) a1.2.1.2.2.1) (catL a1.2.2.2.1 [a1.1.2.1])
                        else
                        none
                      else
                      none
                    else
                    none
                  else
                  none
                else
                none
              else
              none
            else
            none) (fun b1 =>
          kR b1.1.1)
    else
    none
  else
  kE 
def lp42_6 : Nat → (List (Int × Int × Int × Int × Unit)) → Int → (List (Int)) → (List (Int)) → Option (pa42_6.den ⊕ pb42_6.den)
  | 0, _, _, _, _ => none
  | n + 1, v0, v1, v2, v3 => st42_6 (lp42_6 n) (some (.inl ((), ()))) (fun r0 => some (.inr ((r0, ()), ()))) v0 v1 v2 v3
noncomputable def ls42_6 : LoopSum := loopBy k42_6 p42_6 pa42_6 pb42_6 (.exit 0) fun v => lp42_6 fuelN v.1.1 v.1.2.1 v.2.1 v.2.2.1
def fn42 (x0 : List (Int × Int × Int × Int × Unit)) (x1 : Int) : Option (Bool × Unit) :=
  bif (eqI (lenI x0) 0) then
    some (false, ())
  else
  bif (inI x0 0) then
    bif (!(eqI (getI x0 (0, (0, (0, (0, ())))) 0).2.2.2.1 (-1))) then
      some (false, ())
    else
    bif (inI x0 0) then
      bif (!(eqI (getI x0 (0, (0, (0, (0, ())))) 0).2.1 0)) then
        some (false, ())
      else
      bif (inI x0 0) then
        bif (!(eqI (getI x0 (0, (0, (0, (0, ())))) 0).2.2.1 x1)) then
          some (false, ())
        else
        bif (inI x0 0) then
          obind (fn60 (getI x0 (0, (0, (0, (0, ())))) 0)) fun y0 =>
            bif (!y0.1) then
              some (false, ())
            else
            bif ((leI 0 (lenI x0)) && ((leI (lenI x0) (lenI x0)) && (roomC (lenI x0) 8))) then
              obind (lp42_6 fuelN x0 1 (repN (natI (lenI x0)) 0) [0]) fun y1 =>
                osum y1 (fun a2 =>
                  some (true, ())) (fun b2 =>
                  some (b2.1.1, ()))
            else
            none
        else
        none
      else
      none
    else
    none
  else
  none
def sum42 : Sum := (⟨[.list (.pair (.int .i64) (.pair (.int .i64) (.pair (.int .i64) (.pair (.int .i64) .unit)))), .int .i64], [(.bool, false)], fun x => fn42 x.1 x.2.1⟩ : Sum)
noncomputable def env42 : Env := envOf Try.prog tt 42 [(60, sum60)] [(9, k42_9), (6, k42_6)] [(9, ls42_9), (6, ls42_6)]
theorem step42_9 {R : Type} (x : ExecFn R) (xd : Job → St → Option AVal) (n : Nat) (K : Ex → St → Option R) (v0 : List (Int × Int × Int × Int × Unit)) (v1 : Int) (v2 : Int) (v3 : Int) (v4 : Int) (v5 : Int) (v6 : List (Int)) (v7 : List (Int)) :
    iter (some k42_9) (run env42 x xd 42 c42_9) (n + 1) (mkSt p42_9 ((v0, v1, ()), ((v2, v3, v4, v5, ()), v6, v7, ()))) K =
      st42_9 (fun v0 v1 v2 v3 v4 v5 v6 v7 => iter (some k42_9) (run env42 x xd 42 c42_9) n (mkSt p42_9 ((v0, v1, ()), ((v2, v3, v4, v5, ()), v6, v7, ()))) K) (fun e0 e1 e2 e3 e4 e5 e6 e7 => K (.exit 2) (mkSt pa42_9 ((e0, e1, ()), ((e2, e3, e4, e5, ()), e6, e7, ())))) (fun r0 => K .ret (mkSt pb42_9 ((r0, ()), ()))) v0 v1 v2 v3 v4 v5 v6 v7 := by kernel_rfl
theorem it42_9 {R : Type} (x : ExecFn R) (xd : Job → St → Option AVal) (K : Ex → St → Option R) : ∀ (n : Nat) (v0 : List (Int × Int × Int × Int × Unit)) (v1 : Int) (v2 : Int) (v3 : Int) (v4 : Int) (v5 : Int) (v6 : List (Int)) (v7 : List (Int)),
    iter (some k42_9) (run env42 x xd 42 c42_9) n (mkSt p42_9 ((v0, v1, ()), ((v2, v3, v4, v5, ()), v6, v7, ()))) K = obind (lp42_9 n v0 v1 v2 v3 v4 v5 v6 v7) fun o => osum o (fun a => K (.exit 2) (mkSt pa42_9 a)) fun b => K .ret (mkSt pb42_9 b)
  | 0, _, _, _, _, _, _, _, _ => rfl
  | n + 1, v0, v1, v2, v3, v4, v5, v6, v7 => by
    rw [step42_9]
    simp only [it42_9 x xd K n, lp42_9, st42_9, obind_cond, obind_none, obind_some, obind_obind, obind_osum]
    try simp only [osum]
theorem ok42_9 : LoopOk env42 42 c42_9 ls42_9 := loopBy_ok (by kernel_rfl) fun R x xd K v o h => ⟨fuelN, (it42_9 x xd K fuelN (v.1.1) (v.1.2.1) (v.2.1.1) (v.2.1.2.1) (v.2.1.2.2.1) (v.2.1.2.2.2.1) (v.2.2.1) (v.2.2.2.1)).trans (congrArg (fun o => obind o _) h)⟩
theorem step42_6 {R : Type} (x : ExecFn R) (xd : Job → St → Option AVal) (n : Nat) (K : Ex → St → Option R) (v0 : List (Int × Int × Int × Int × Unit)) (v1 : Int) (v2 : List (Int)) (v3 : List (Int)) :
    iter (some k42_6) (run env42 x xd 42 c42_6) (n + 1) (mkSt p42_6 ((v0, v1, ()), (v2, v3, ()))) K =
      st42_6 (fun v0 v1 v2 v3 => iter (some k42_6) (run env42 x xd 42 c42_6) n (mkSt p42_6 ((v0, v1, ()), (v2, v3, ()))) K) (K (.exit 0) (mkSt pa42_6 ((), ()))) (fun r0 => K .ret (mkSt pb42_6 ((r0, ()), ()))) v0 v1 v2 v3 := by kernel_rfl
theorem it42_6 {R : Type} (x : ExecFn R) (xd : Job → St → Option AVal) (K : Ex → St → Option R) : ∀ (n : Nat) (v0 : List (Int × Int × Int × Int × Unit)) (v1 : Int) (v2 : List (Int)) (v3 : List (Int)),
    iter (some k42_6) (run env42 x xd 42 c42_6) n (mkSt p42_6 ((v0, v1, ()), (v2, v3, ()))) K = obind (lp42_6 n v0 v1 v2 v3) fun o => osum o (fun a => K (.exit 0) (mkSt pa42_6 a)) fun b => K .ret (mkSt pb42_6 b)
  | 0, _, _, _, _ => rfl
  | n + 1, v0, v1, v2, v3 => by
    rw [step42_6]
    simp only [it42_6 x xd K n, lp42_6, st42_6, obind_cond, obind_none, obind_some, obind_obind, obind_osum]
    try simp only [osum]
theorem ok42_6 : LoopOk env42 42 c42_6 ls42_6 := loopBy_ok (by kernel_rfl) fun R x xd K v o h => ⟨fuelN, (it42_6 x xd K fuelN (v.1.1) (v.1.2.1) (v.2.1) (v.2.2.1)).trans (congrArg (fun o => obind o _) h)⟩
theorem run42 (x0 : List (Int × Int × Int × Int × Unit)) (x1 : Int) : runF env42 42 [.list (.pair (.int .i64) (.pair (.int .i64) (.pair (.int .i64) (.pair (.int .i64) .unit)))), .int .i64] [(.bool, false)] (x0, x1, ()) = fn42 x0 x1 := by kernel_rfl
theorem lat42 : loopsAt b42 = [c42_9, c42_6] := by kernel_rfl
theorem lok42 : loopsOk env42 42 b42 := loopsOk_at b42 (fun _ => rfl) (by rw [lat42]; exact (List.forall_mem_cons.2 ⟨(fun L h => by rw [show env42.lp 42 (firstRegion c42_9) = some ls42_9 by kernel_rfl] at h; cases h; exact ok42_9), (List.forall_mem_cons.2 ⟨(fun L h => by rw [show env42.lp 42 (firstRegion c42_6) = some ls42_6 by kernel_rfl] at h; cases h; exact ok42_6), (fun _ h => absurd h List.not_mem_nil)⟩)⟩))
theorem env42_ok : EnvOk env42 := envOf_ok tok mixed noGor (sg := [(60, sum60)]) (List.forall_mem_cons.2 ⟨(sum60_ok), (fun _ h => absurd h List.not_mem_nil)⟩) (fn := Try.f42) (c := b42) (by kernel_rfl) (by kernel_rfl) lok42 rf_ok chk_ok
theorem sum42_ok : SumOk Try.prog 42 sum42 := sum_of_run env42_ok (by decide) fun x y h => (run42 (x.1) (x.2.1)).trans h

/-! ### quillwort/tree.is -/
def fn56 (x0 : List (Int × Int × Int × Int × Unit)) (x1 : Int) : Option (Bool × Unit) :=
  bif (leI 0 x1) then
    some ((ltI x1 (lenI x0)), ())
  else
  some (false, ())
def sum56 : Sum := (⟨[.list (.pair (.int .i64) (.pair (.int .i64) (.pair (.int .i64) (.pair (.int .i64) .unit)))), .int .i64], [(.bool, false)], fun x => fn56 x.1 x.2.1⟩ : Sum)
noncomputable def env56 : Env := envOf Try.prog tt 56 [] [] []
theorem run56 (x0 : List (Int × Int × Int × Int × Unit)) (x1 : Int) : runF env56 56 [.list (.pair (.int .i64) (.pair (.int .i64) (.pair (.int .i64) (.pair (.int .i64) .unit)))), .int .i64] [(.bool, false)] (x0, x1, ()) = fn56 x0 x1 := by kernel_rfl
theorem env56_ok : EnvOk env56 := envOf_ok tok mixed noGor (sg := []) (fun _ h => absurd h List.not_mem_nil) (fn := Try.f56) (c := (Try.f56.body).getD .skip) (by kernel_rfl) (by kernel_rfl) (loopsOk_none (fun _ => rfl) (fun _ => rfl) _) rf_ok chk_ok
theorem sum56_ok : SumOk Try.prog 56 sum56 := sum_of_run env56_ok (by decide) fun x y h => (run56 (x.1) (x.2.1)).trans h

/-! ### quillwort/tree.Kids -/
noncomputable def b51 : Code := (Try.f51.body).getD .skip
noncomputable def c51_4 : Code := cA (cA (cB (cA (cB (cB (b51))))))
def k51_4 : Keep := ⟨[1, 4, 11, 12, 13, 100004], [(4, (.int .i64))], [4], [], [4], [(4, (.int .i64))]⟩
def p51_4 : SP := ⟨us [.u, .v (.int .i64), .u, .u, .slc 1800004, .u, .u, .u, .u, .u, .u, .v (.list (.pair (.int .i64) (.pair (.int .i64) (.pair (.int .i64) (.pair (.int .i64) .unit))))), .v (.int .i64), .v (.int .i64)] 14, [.arr 1800004 (.int .i64)]⟩
def pa51_4 : SP := ⟨us [.u, .u, .u, .u, .slc 1800004] 23, [.arr 1800004 (.int .i64)]⟩
def pb51_4 : SP := ⟨us [.u, .u, .u, .u, .v (.list (.int .i64))] 23, []⟩
def st51_4 {γ : Type} (rec : Int → (List (Int × Int × Int × Int × Unit)) → Int → Int → (List (Int)) → Option γ) (kE : (List (Int)) → Option γ) (kR : (List (Int)) → Option γ) (v0 : Int) (v1 : List (Int × Int × Int × Int × Unit)) (v2 : Int) (v3 : Int) (v4 : List (Int)) : Option γ :=
  bif (ltI v3 v2) then
    bif (inI v1 v3) then
      bif (eqI (getI v1 (0, (0, (0, (0, ())))) v3).2.2.2.1 v0) then
        bif (fitI (catL v4 [v3]) 8) then
          rec v0 v1 v2 (addK .i64 v3 1) (catL v4 [v3])
        else
        none
      else
      rec v0 v1 v2 (addK .i64 v3 1) v4
    else
    none
  else
  kE v4
def lp51_4 : Nat → Int → (List (Int × Int × Int × Int × Unit)) → Int → Int → (List (Int)) → Option (pa51_4.den ⊕ pb51_4.den)
  | 0, _, _, _, _, _ => none
  | n + 1, v0, v1, v2, v3, v4 => st51_4 (lp51_4 n) (fun e0 => some (.inl ((), (e0, ())))) (fun r0 => some (.inr ((r0, ()), ()))) v0 v1 v2 v3 v4
noncomputable def ls51_4 : LoopSum := loopBy k51_4 p51_4 pa51_4 pb51_4 (.exit 0) fun v => lp51_4 fuelN v.1.1 v.1.2.1 v.1.2.2.1 v.1.2.2.2.1 v.2.1
def fn51 (x0 : List (Int × Int × Int × Int × Unit)) (x1 : Int) : Option ((List (Int)) × Unit) :=
  obind (fn56 x0 x1) fun y0 =>
    bif (!y0.1) then
      some ([], ())
    else
    obind (lp51_4 fuelN x1 x0 (lenI x0) 0 []) fun y1 =>
      osum y1 (fun a2 =>
        some (a2.2.1, ())) (fun b2 =>
        some (b2.1.1, ()))
def sum51 : Sum := (⟨[.list (.pair (.int .i64) (.pair (.int .i64) (.pair (.int .i64) (.pair (.int .i64) .unit)))), .int .i64], [(.list (.int .i64), false)], fun x => fn51 x.1 x.2.1⟩ : Sum)
noncomputable def env51 : Env := envOf Try.prog tt 51 [(56, sum56)] [(4, k51_4)] [(4, ls51_4)]
theorem step51_4 {R : Type} (x : ExecFn R) (xd : Job → St → Option AVal) (n : Nat) (K : Ex → St → Option R) (v0 : Int) (v1 : List (Int × Int × Int × Int × Unit)) (v2 : Int) (v3 : Int) (v4 : List (Int)) :
    iter (some k51_4) (run env51 x xd 51 c51_4) (n + 1) (mkSt p51_4 ((v0, v1, v2, v3, ()), (v4, ()))) K =
      st51_4 (fun v0 v1 v2 v3 v4 => iter (some k51_4) (run env51 x xd 51 c51_4) n (mkSt p51_4 ((v0, v1, v2, v3, ()), (v4, ()))) K) (fun e0 => K (.exit 0) (mkSt pa51_4 ((), (e0, ())))) (fun r0 => K .ret (mkSt pb51_4 ((r0, ()), ()))) v0 v1 v2 v3 v4 := by kernel_rfl
theorem it51_4 {R : Type} (x : ExecFn R) (xd : Job → St → Option AVal) (K : Ex → St → Option R) : ∀ (n : Nat) (v0 : Int) (v1 : List (Int × Int × Int × Int × Unit)) (v2 : Int) (v3 : Int) (v4 : List (Int)),
    iter (some k51_4) (run env51 x xd 51 c51_4) n (mkSt p51_4 ((v0, v1, v2, v3, ()), (v4, ()))) K = obind (lp51_4 n v0 v1 v2 v3 v4) fun o => osum o (fun a => K (.exit 0) (mkSt pa51_4 a)) fun b => K .ret (mkSt pb51_4 b)
  | 0, _, _, _, _, _ => rfl
  | n + 1, v0, v1, v2, v3, v4 => by
    rw [step51_4]
    simp only [it51_4 x xd K n, lp51_4, st51_4, obind_cond, obind_none, obind_some, obind_obind, obind_osum]
    try simp only [osum]
theorem ok51_4 : LoopOk env51 51 c51_4 ls51_4 := loopBy_ok (by kernel_rfl) fun R x xd K v o h => ⟨fuelN, (it51_4 x xd K fuelN (v.1.1) (v.1.2.1) (v.1.2.2.1) (v.1.2.2.2.1) (v.2.1)).trans (congrArg (fun o => obind o _) h)⟩
theorem run51 (x0 : List (Int × Int × Int × Int × Unit)) (x1 : Int) : runF env51 51 [.list (.pair (.int .i64) (.pair (.int .i64) (.pair (.int .i64) (.pair (.int .i64) .unit)))), .int .i64] [(.list (.int .i64), false)] (x0, x1, ()) = fn51 x0 x1 := by kernel_rfl
theorem lat51 : loopsAt b51 = [c51_4] := by kernel_rfl
theorem lok51 : loopsOk env51 51 b51 := loopsOk_at b51 (fun _ => rfl) (by rw [lat51]; exact (List.forall_mem_cons.2 ⟨(fun L h => by rw [show env51.lp 51 (firstRegion c51_4) = some ls51_4 by kernel_rfl] at h; cases h; exact ok51_4), (fun _ h => absurd h List.not_mem_nil)⟩))
theorem env51_ok : EnvOk env51 := envOf_ok tok mixed noGor (sg := [(56, sum56)]) (List.forall_mem_cons.2 ⟨(sum56_ok), (fun _ h => absurd h List.not_mem_nil)⟩) (fn := Try.f51) (c := b51) (by kernel_rfl) (by kernel_rfl) lok51 rf_ok chk_ok
theorem sum51_ok : SumOk Try.prog 51 sum51 := sum_of_run env51_ok (by decide) fun x y h => (run51 (x.1) (x.2.1)).trans h

/-! ### internal/stringslite.IndexByte -/
def fn58 (x0 : List UInt8) (x1 : Int) : Option (Int × Unit) :=
  some ((ibW x0 x1), ())
def sum58 : Sum := (⟨[.str, .int .u8], [(.int .i64, false)], fun x => fn58 x.1 x.2.1⟩ : Sum)
noncomputable def env58 : Env := envOf Try.prog tt 58 [(76, sumIB)] [] []
theorem run58 (x0 : List UInt8) (x1 : Int) : runF env58 58 [.str, .int .u8] [(.int .i64, false)] (x0, x1, ()) = fn58 x0 x1 := by kernel_rfl
theorem env58_ok : EnvOk env58 := envOf_ok tok mixed noGor (sg := [(76, sumIB)]) (List.forall_mem_cons.2 ⟨(sumIB_ok Try.func76 (by kernel_rfl) (by kernel_rfl) (by kernel_rfl) (by kernel_rfl)), (fun _ h => absurd h List.not_mem_nil)⟩) (fn := Try.f58) (c := (Try.f58.body).getD .skip) (by kernel_rfl) (by kernel_rfl) (loopsOk_none (fun _ => rfl) (fun _ => rfl) _) rf_ok chk_ok
theorem sum58_ok : SumOk Try.prog 58 sum58 := sum_of_run env58_ok (by decide) fun x y h => (run58 (x.1) (x.2.1)).trans h

/-! ### strings.IndexByte -/
def fn39 (x0 : List UInt8) (x1 : Int) : Option (Int × Unit) :=
  obind (fn58 x0 x1) fun y0 =>
    some (y0.1, ())
def sum39 : Sum := (⟨[.str, .int .u8], [(.int .i64, false)], fun x => fn39 x.1 x.2.1⟩ : Sum)
noncomputable def env39 : Env := envOf Try.prog tt 39 [(58, sum58)] [] []
theorem run39 (x0 : List UInt8) (x1 : Int) : runF env39 39 [.str, .int .u8] [(.int .i64, false)] (x0, x1, ()) = fn39 x0 x1 := by kernel_rfl
theorem env39_ok : EnvOk env39 := envOf_ok tok mixed noGor (sg := [(58, sum58)]) (List.forall_mem_cons.2 ⟨(sum58_ok), (fun _ h => absurd h List.not_mem_nil)⟩) (fn := Try.f39) (c := (Try.f39.body).getD .skip) (by kernel_rfl) (by kernel_rfl) (loopsOk_none (fun _ => rfl) (fun _ => rfl) _) rf_ok chk_ok
theorem sum39_ok : SumOk Try.prog 39 sum39 := sum_of_run env39_ok (by decide) fun x y h => (run39 (x.1) (x.2.1)).trans h

/-! ### quillwort/quillwortref11.Above -/
noncomputable def b30 : Code := (Try.f30.body).getD .skip
noncomputable def c30_1 : Code := cA (cA (cA (cB (b30))))
def k30_1 : Keep := ⟨[0, 1, 2, 100001], [], [], [], [6], []⟩
def p30_1 : SP := ⟨us [.v (.list (.pair (.int .i64) (.pair (.int .i64) (.pair (.int .i64) (.pair (.int .i64) .unit))))), .v (.int .i64), .v (.int .i64)] 14, []⟩
def pa30_1 : SP := ⟨us [] 17, []⟩
def pb30_1 : SP := ⟨us [.u, .u, .u, .u, .u, .u, .v .bool] 10, []⟩
def st30_1 {γ : Type} (rec : (List (Int × Int × Int × Int × Unit)) → Int → Int → Option γ) (kE : Option γ) (kR : Bool → Option γ) (v0 : List (Int × Int × Int × Int × Unit)) (v1 : Int) (v2 : Int) : Option γ :=
  bif (leI 0 v2) then
    bif (eqI v1 v2) then
      kR true
    else
    bif (inI v0 v2) then
      rec v0 v1 (getI v0 (0, (0, (0, (0, ())))) v2).2.2.2.1
    else
    none
  else
  kE 
def lp30_1 : Nat → (List (Int × Int × Int × Int × Unit)) → Int → Int → Option (pa30_1.den ⊕ pb30_1.den)
  | 0, _, _, _ => none
  | n + 1, v0, v1, v2 => st30_1 (lp30_1 n) (some (.inl ((), ()))) (fun r0 => some (.inr ((r0, ()), ()))) v0 v1 v2
noncomputable def ls30_1 : LoopSum := loopBy k30_1 p30_1 pa30_1 pb30_1 (.exit 0) fun v => lp30_1 fuelN v.1.1 v.1.2.1 v.1.2.2.1
def fn30 (x0 : List (Int × Int × Int × Int × Unit)) (x1 : Int) (x2 : Int) : Option (Bool × Unit) :=
  obind (lp30_1 fuelN x0 x1 x2) fun y0 =>
    osum y0 (fun a1 =>
      some (false, ())) (fun b1 =>
      some (b1.1.1, ()))
def sum30 : Sum := (⟨[.list (.pair (.int .i64) (.pair (.int .i64) (.pair (.int .i64) (.pair (.int .i64) .unit)))), .int .i64, .int .i64], [(.bool, false)], fun x => fn30 x.1 x.2.1 x.2.2.1⟩ : Sum)
noncomputable def env30 : Env := envOf Try.prog tt 30 [] [(1, k30_1)] [(1, ls30_1)]
theorem step30_1 {R : Type} (x : ExecFn R) (xd : Job → St → Option AVal) (n : Nat) (K : Ex → St → Option R) (v0 : List (Int × Int × Int × Int × Unit)) (v1 : Int) (v2 : Int) :
    iter (some k30_1) (run env30 x xd 30 c30_1) (n + 1) (mkSt p30_1 ((v0, v1, v2, ()), ())) K =
      st30_1 (fun v0 v1 v2 => iter (some k30_1) (run env30 x xd 30 c30_1) n (mkSt p30_1 ((v0, v1, v2, ()), ())) K) (K (.exit 0) (mkSt pa30_1 ((), ()))) (fun r0 => K .ret (mkSt pb30_1 ((r0, ()), ()))) v0 v1 v2 := by kernel_rfl
theorem it30_1 {R : Type} (x : ExecFn R) (xd : Job → St → Option AVal) (K : Ex → St → Option R) : ∀ (n : Nat) (v0 : List (Int × Int × Int × Int × Unit)) (v1 : Int) (v2 : Int),
    iter (some k30_1) (run env30 x xd 30 c30_1) n (mkSt p30_1 ((v0, v1, v2, ()), ())) K = obind (lp30_1 n v0 v1 v2) fun o => osum o (fun a => K (.exit 0) (mkSt pa30_1 a)) fun b => K .ret (mkSt pb30_1 b)
  | 0, _, _, _ => rfl
  | n + 1, v0, v1, v2 => by
    rw [step30_1]
    simp only [it30_1 x xd K n, lp30_1, st30_1, obind_cond, obind_none, obind_some, obind_obind, obind_osum]
    try simp only [osum]
theorem ok30_1 : LoopOk env30 30 c30_1 ls30_1 := loopBy_ok (by kernel_rfl) fun R x xd K v o h => ⟨fuelN, (it30_1 x xd K fuelN (v.1.1) (v.1.2.1) (v.1.2.2.1)).trans (congrArg (fun o => obind o _) h)⟩
theorem run30 (x0 : List (Int × Int × Int × Int × Unit)) (x1 : Int) (x2 : Int) : runF env30 30 [.list (.pair (.int .i64) (.pair (.int .i64) (.pair (.int .i64) (.pair (.int .i64) .unit)))), .int .i64, .int .i64] [(.bool, false)] (x0, x1, x2, ()) = fn30 x0 x1 x2 := by kernel_rfl
theorem lat30 : loopsAt b30 = [c30_1] := by kernel_rfl
theorem lok30 : loopsOk env30 30 b30 := loopsOk_at b30 (fun _ => rfl) (by rw [lat30]; exact (List.forall_mem_cons.2 ⟨(fun L h => by rw [show env30.lp 30 (firstRegion c30_1) = some ls30_1 by kernel_rfl] at h; cases h; exact ok30_1), (fun _ h => absurd h List.not_mem_nil)⟩))
theorem env30_ok : EnvOk env30 := envOf_ok tok mixed noGor (sg := []) (fun _ h => absurd h List.not_mem_nil) (fn := Try.f30) (c := b30) (by kernel_rfl) (by kernel_rfl) lok30 rf_ok chk_ok
theorem sum30_ok : SumOk Try.prog 30 sum30 := sum_of_run env30_ok (by decide) fun x y h => (run30 (x.1) (x.2.1) (x.2.2.1)).trans h

/-! ### quillwort/quillwortref11.Right -/
noncomputable def b15 : Code := (Try.f15.body).getD .skip
noncomputable def c15_13 : Code := cA (cA (cB (cB (cB (cB (cB (cA (cA (cB (cA (cA (cB (cA (cB (cB (b15))))))))))))))))
noncomputable def c15_4 : Code := cA (cA (cB (cA (cB (cB (b15))))))
def k15_13 : Keep := ⟨[0, 5, 6, 7, 100013], [], [0, 5], [], [4], []⟩
def k15_4 : Keep := ⟨[0, 5, 100004], [], [], [], [4], []⟩
def p15_13 : SP := ⟨us [.v (.list (.pair (.int .i64) (.pair (.int .i64) (.pair (.int .i64) (.pair (.int .i64) .unit))))), .u, .u, .u, .u, .v (.int .i64), .v (.int .i64), .v (.int .i64)] 131, []⟩
def pa15_13 : SP := ⟨us [.v (.list (.pair (.int .i64) (.pair (.int .i64) (.pair (.int .i64) (.pair (.int .i64) .unit))))), .u, .u, .u, .u, .v (.int .i64)] 133, []⟩
def pb15_13 : SP := ⟨us [.u, .u, .u, .u, .v .bool] 134, []⟩
def st15_13 {γ : Type} (rec : (List (Int × Int × Int × Int × Unit)) → Int → Int → Int → Option γ) (kE : (List (Int × Int × Int × Int × Unit)) → Int → Option γ) (kR : Bool → Option γ) (v0 : List (Int × Int × Int × Int × Unit)) (v1 : Int) (v2 : Int) (v3 : Int) : Option γ :=
  bif (ltI v3 v1) then
    bif (inI v0 v3) then
      bif (eqI (getI v0 (0, (0, (0, (0, ())))) v3).2.2.2.1 v2) then
        bif (inI v0 v3) then
          bif (inI v0 v1) then
            bif (ltI (getI v0 (0, (0, (0, (0, ())))) v1).2.1 (getI v0 (0, (0, (0, (0, ())))) v3).2.2.1) then
              kR false
            else
            rec v0 v1 v2 (addK .i64 v3 1)
          else
          none
        else
        none
      else
      rec v0 v1 v2 (addK .i64 v3 1)
    else
    none
  else
  kE v0 v1
def lp15_13 : Nat → (List (Int × Int × Int × Int × Unit)) → Int → Int → Int → Option (pa15_13.den ⊕ pb15_13.den)
  | 0, _, _, _, _ => none
  | n + 1, v0, v1, v2, v3 => st15_13 (lp15_13 n) (fun e0 e1 => some (.inl ((e0, e1, ()), ()))) (fun r0 => some (.inr ((r0, ()), ()))) v0 v1 v2 v3
noncomputable def ls15_13 : LoopSum := loopBy k15_13 p15_13 pa15_13 pb15_13 (.exit 2) fun v => lp15_13 fuelN v.1.1 v.1.2.1 v.1.2.2.1 v.1.2.2.2.1
def p15_4 : SP := ⟨us [.v (.list (.pair (.int .i64) (.pair (.int .i64) (.pair (.int .i64) (.pair (.int .i64) .unit))))), .u, .u, .u, .u, .v (.int .i64)] 133, []⟩
def pa15_4 : SP := ⟨us [] 139, []⟩
def pb15_4 : SP := ⟨us [.u, .u, .u, .u, .v .bool] 134, []⟩
def st15_4 {γ : Type} (rec : (List (Int × Int × Int × Int × Unit)) → Int → Option γ) (kE : Option γ) (kR : Bool → Option γ) (v0 : List (Int × Int × Int × Int × Unit)) (v1 : Int) : Option γ :=
  bif (ltI v1 (lenI v0)) then
    bif (inI v0 v1) then
      bif (ltI (getI v0 (0, (0, (0, (0, ())))) v1).1 1) then
        kR false
      else
      bif (inI v0 v1) then
        bif (ltI 18 (getI v0 (0, (0, (0, (0, ())))) v1).1) then
          kR false
        else
        bif (inI v0 v1) then
          bif (inI v0 v1) then
            bif (ltI (getI v0 (0, (0, (0, (0, ())))) v1).2.2.1 (getI v0 (0, (0, (0, (0, ())))) v1).2.1) then
              kR false
            else
            bif (eqI v1 0) then
              rec v0 (addK .i64 v1 1)
            else
            bif (inI v0 v1) then
              bif (ltI (getI v0 (0, (0, (0, (0, ())))) v1).2.2.2.1 0) then
                kR false
              else
              bif (leI v1 (getI v0 (0, (0, (0, (0, ())))) v1).2.2.2.1) then
                kR false
              else
              obind (fn30 v0 (getI v0 (0, (0, (0, (0, ())))) v1).2.2.2.1 (subK .i64 v1 1)) fun y0 =>
                bif (!y0.1) then
                  kR false
                else
                bif (inI v0 v1) then
                  bif (inI v0 (getI v0 (0, (0, (0, (0, ())))) v1).2.2.2.1) then
                    bif (ltI (getI v0 (0, (0, (0, (0, ())))) v1).2.1 (getI v0 (0, (0, (0, (0, ())))) (getI v0 (0, (0, (0, (0, ())))) v1).2.2.2.1).2.1) then
                      kR false
                    else
                    bif (inI v0 v1) then
                      bif (inI v0 (getI v0 (0, (0, (0, (0, ())))) v1).2.2.2.1) then
                        bif (ltI (getI v0 (0, (0, (0, (0, ())))) (getI v0 (0, (0, (0, (0, ())))) v1).2.2.2.1).2.2.1 (getI v0 (0, (0, (0, (0, ())))) v1).2.2.1) then
                          kR false
                        else
                        obind (lp15_13 fuelN v0 v1 (getI v0 (0, (0, (0, (0, ())))) v1).2.2.2.1 1) fun y1 =>
                          osum y1 (fun a2 =>
                            rec a2.1.1 (addK .i64 a2.1.2.1 1)) (fun b2 =>
                            kR b2.1.1)
                      else
                      none
                    else
                    none
                  else
                  none
                else
                none
            else
            none
          else
          none
        else
        none
      else
      none
    else
    none
  else
  kE 
def lp15_4 : Nat → (List (Int × Int × Int × Int × Unit)) → Int → Option (pa15_4.den ⊕ pb15_4.den)
  | 0, _, _ => none
  | n + 1, v0, v1 => st15_4 (lp15_4 n) (some (.inl ((), ()))) (fun r0 => some (.inr ((r0, ()), ()))) v0 v1
noncomputable def ls15_4 : LoopSum := loopBy k15_4 p15_4 pa15_4 pb15_4 (.exit 0) fun v => lp15_4 fuelN v.1.1 v.1.2.1
def fn15 (x0 : List (Int × Int × Int × Int × Unit)) (x1 : Int) : Option (Bool × Unit) :=
  bif (eqI (lenI x0) 0) then
    some (false, ())
  else
  bif (inI x0 0) then
    bif (!(eqI (getI x0 (0, (0, (0, (0, ())))) 0).2.2.2.1 (-1))) then
      some (false, ())
    else
    bif (inI x0 0) then
      bif (!(eqI (getI x0 (0, (0, (0, (0, ())))) 0).2.1 0)) then
        some (false, ())
      else
      bif (inI x0 0) then
        bif (!(eqI (getI x0 (0, (0, (0, (0, ())))) 0).2.2.1 x1)) then
          some (false, ())
        else
        obind (lp15_4 fuelN x0 0) fun y0 =>
          osum y0 (fun a1 =>
            some (true, ())) (fun b1 =>
            some (b1.1.1, ()))
      else
      none
    else
    none
  else
  none
def sum15 : Sum := (⟨[.list (.pair (.int .i64) (.pair (.int .i64) (.pair (.int .i64) (.pair (.int .i64) .unit)))), .int .i64], [(.bool, false)], fun x => fn15 x.1 x.2.1⟩ : Sum)
noncomputable def env15 : Env := envOf Try.prog tt 15 [(30, sum30)] [(13, k15_13), (4, k15_4)] [(13, ls15_13), (4, ls15_4)]
theorem step15_13 {R : Type} (x : ExecFn R) (xd : Job → St → Option AVal) (n : Nat) (K : Ex → St → Option R) (v0 : List (Int × Int × Int × Int × Unit)) (v1 : Int) (v2 : Int) (v3 : Int) :
    iter (some k15_13) (run env15 x xd 15 c15_13) (n + 1) (mkSt p15_13 ((v0, v1, v2, v3, ()), ())) K =
      st15_13 (fun v0 v1 v2 v3 => iter (some k15_13) (run env15 x xd 15 c15_13) n (mkSt p15_13 ((v0, v1, v2, v3, ()), ())) K) (fun e0 e1 => K (.exit 2) (mkSt pa15_13 ((e0, e1, ()), ()))) (fun r0 => K .ret (mkSt pb15_13 ((r0, ()), ()))) v0 v1 v2 v3 := by kernel_rfl
theorem it15_13 {R : Type} (x : ExecFn R) (xd : Job → St → Option AVal) (K : Ex → St → Option R) : ∀ (n : Nat) (v0 : List (Int × Int × Int × Int × Unit)) (v1 : Int) (v2 : Int) (v3 : Int),
    iter (some k15_13) (run env15 x xd 15 c15_13) n (mkSt p15_13 ((v0, v1, v2, v3, ()), ())) K = obind (lp15_13 n v0 v1 v2 v3) fun o => osum o (fun a => K (.exit 2) (mkSt pa15_13 a)) fun b => K .ret (mkSt pb15_13 b)
  | 0, _, _, _, _ => rfl
  | n + 1, v0, v1, v2, v3 => by
    rw [step15_13]
    simp only [it15_13 x xd K n, lp15_13, st15_13, obind_cond, obind_none, obind_some, obind_obind, obind_osum]
    try simp only [osum]
theorem ok15_13 : LoopOk env15 15 c15_13 ls15_13 := loopBy_ok (by kernel_rfl) fun R x xd K v o h => ⟨fuelN, (it15_13 x xd K fuelN (v.1.1) (v.1.2.1) (v.1.2.2.1) (v.1.2.2.2.1)).trans (congrArg (fun o => obind o _) h)⟩
theorem step15_4 {R : Type} (x : ExecFn R) (xd : Job → St → Option AVal) (n : Nat) (K : Ex → St → Option R) (v0 : List (Int × Int × Int × Int × Unit)) (v1 : Int) :
    iter (some k15_4) (run env15 x xd 15 c15_4) (n + 1) (mkSt p15_4 ((v0, v1, ()), ())) K =
      st15_4 (fun v0 v1 => iter (some k15_4) (run env15 x xd 15 c15_4) n (mkSt p15_4 ((v0, v1, ()), ())) K) (K (.exit 0) (mkSt pa15_4 ((), ()))) (fun r0 => K .ret (mkSt pb15_4 ((r0, ()), ()))) v0 v1 := by kernel_rfl
theorem it15_4 {R : Type} (x : ExecFn R) (xd : Job → St → Option AVal) (K : Ex → St → Option R) : ∀ (n : Nat) (v0 : List (Int × Int × Int × Int × Unit)) (v1 : Int),
    iter (some k15_4) (run env15 x xd 15 c15_4) n (mkSt p15_4 ((v0, v1, ()), ())) K = obind (lp15_4 n v0 v1) fun o => osum o (fun a => K (.exit 0) (mkSt pa15_4 a)) fun b => K .ret (mkSt pb15_4 b)
  | 0, _, _ => rfl
  | n + 1, v0, v1 => by
    rw [step15_4]
    simp only [it15_4 x xd K n, lp15_4, st15_4, obind_cond, obind_none, obind_some, obind_obind, obind_osum]
    try simp only [osum]
theorem ok15_4 : LoopOk env15 15 c15_4 ls15_4 := loopBy_ok (by kernel_rfl) fun R x xd K v o h => ⟨fuelN, (it15_4 x xd K fuelN (v.1.1) (v.1.2.1)).trans (congrArg (fun o => obind o _) h)⟩
theorem run15 (x0 : List (Int × Int × Int × Int × Unit)) (x1 : Int) : runF env15 15 [.list (.pair (.int .i64) (.pair (.int .i64) (.pair (.int .i64) (.pair (.int .i64) .unit)))), .int .i64] [(.bool, false)] (x0, x1, ()) = fn15 x0 x1 := by kernel_rfl
theorem lat15 : loopsAt b15 = [c15_13, c15_4] := by kernel_rfl
theorem lok15 : loopsOk env15 15 b15 := loopsOk_at b15 (fun _ => rfl) (by rw [lat15]; exact (List.forall_mem_cons.2 ⟨(fun L h => by rw [show env15.lp 15 (firstRegion c15_13) = some ls15_13 by kernel_rfl] at h; cases h; exact ok15_13), (List.forall_mem_cons.2 ⟨(fun L h => by rw [show env15.lp 15 (firstRegion c15_4) = some ls15_4 by kernel_rfl] at h; cases h; exact ok15_4), (fun _ h => absurd h List.not_mem_nil)⟩)⟩))
theorem env15_ok : EnvOk env15 := envOf_ok tok mixed noGor (sg := [(30, sum30)]) (List.forall_mem_cons.2 ⟨(sum30_ok), (fun _ h => absurd h List.not_mem_nil)⟩) (fn := Try.f15) (c := b15) (by kernel_rfl) (by kernel_rfl) lok15 rf_ok chk_ok
theorem sum15_ok : SumOk Try.prog 15 sum15 := sum_of_run env15_ok (by decide) fun x y h => (run15 (x.1) (x.2.1)).trans h

/-! ### quillwort/tree.Path -/
noncomputable def b38 : Code := (Try.f38.body).getD .skip
noncomputable def b38_57 : Code := (Try.f57.body).getD .skip
noncomputable def c38_1 : Code := cA (cA (cA (cB (b38))))
noncomputable def c38_57_1 : Code := cA (cA (cB (b38_57)))
def k38_1 : Keep := ⟨[0, 1, 4, 100001], [(4, (.int .i64))], [4], [(4, (.int .i64))], [4], [(4, (.int .i64))]⟩
def k38_57_1 : Keep := ⟨[0, 2, 3, 58000001], [], [], [], [], []⟩
def p38_1 : SP := ⟨us [.v (.list (.pair (.int .i64) (.pair (.int .i64) (.pair (.int .i64) (.pair (.int .i64) .unit))))), .v (.int .i64), .u, .u, .slc 1800004] 22, [.arr 1800004 (.int .i64)]⟩
def pa38_1 : SP := ⟨us [.u, .u, .u, .u, .slc 1800004] 22, [.arr 1800004 (.int .i64)]⟩
def pb38_1 : SP := ⟨us [.u, .u, .u, .u, .v (.list (.int .i64))] 22, []⟩
def st38_1 {γ : Type} (rec : (List (Int × Int × Int × Int × Unit)) → Int → (List (Int)) → Option γ) (kE : (List (Int)) → Option γ) (kR : (List (Int)) → Option γ) (v0 : List (Int × Int × Int × Int × Unit)) (v1 : Int) (v2 : List (Int)) : Option γ :=
  obind (fn56 v0 v1) fun y0 =>
    bif y0.1 then
      bif (fitI (catL v2 [v1]) 8) then
        bif (inI v0 v1) then
          bif (leI v1 (getI v0 (0, (0, (0, (0, ())))) v1).2.2.2.1) then
            kE (catL v2 [v1])
          else
          bif (inI v0 v1) then
            rec v0 (getI v0 (0, (0, (0, (0, ())))) v1).2.2.2.1 (catL v2 [v1])
          else
          none
        else
        none
      else
      none
    else
    kE v2
def lp38_1 : Nat → (List (Int × Int × Int × Int × Unit)) → Int → (List (Int)) → Option (pa38_1.den ⊕ pb38_1.den)
  | 0, _, _, _ => none
  | n + 1, v0, v1, v2 => st38_1 (lp38_1 n) (fun e0 => some (.inl ((), (e0, ())))) (fun r0 => some (.inr ((r0, ()), ()))) v0 v1 v2
noncomputable def ls38_1 : LoopSum := loopBy k38_1 p38_1 pa38_1 pb38_1 (.exit 0) fun v => lp38_1 fuelN v.1.1 v.1.2.1 v.2.1
def p38_57_1 : SQ := ⟨us [.slc 1800004, .u, .v (.int .i64), .v (.int .i64)] 24, [[.u, .u, .u, .u, .slc 1800004, .u, .u, .u, .u, .u, .u, .u, .u, .u, .u, .u, .u, .u, .u, .u, .u, .u, .u, .u, .slc 1800004, .u, .u], []], [.arr 1800004 (.int .i64)]⟩
def pa38_57_1 : SQ := ⟨us [] 28, [[.u, .u, .u, .u, .slc 1800004, .u, .u, .u, .u, .u, .u, .u, .u, .u, .u, .u, .u, .u, .u, .u, .u, .u, .u, .u, .slc 1800004, .u, .u], []], [.arr 1800004 (.int .i64)]⟩
def pb38_57_1 : SQ := ⟨us [] 28, [[.u, .u, .u, .u, .slc 1800004, .u, .u, .u, .u, .u, .u, .u, .u, .u, .u, .u, .u, .u, .u, .u, .u, .u, .u, .u, .slc 1800004, .u, .u], []], []⟩
def st38_57_1 {γ : Type} (rec : Int → Int → (List (Int)) → Option γ) (kE : (List (Int)) → Option γ) (kR : Option γ) (v0 : Int) (v1 : Int) (v2 : List (Int)) : Option γ :=
  bif (ltI v0 v1) then
    bif (inI v2 v1) then
      bif (inI v2 v0) then
        bif (ltL (natI v1) v2) then
          bif (ltL (natI v0) v2) then
            bif (inI v2 v0) then
              bif (ltL (natI v0) v2) then
                bif (inI (setI v2 (natI v0) (nthN v2 0 (natI v1))) v1) then
                  bif (ltL (natI v1) (setI v2 (natI v0) (nthN v2 0 (natI v1)))) then
                    rec (addK .i64 v0 1) (subK .i64 v1 1) (setI (setI v2 (natI v0) (nthN v2 0 (natI v1))) (natI v1) (nthN v2 0 (natI v0)))
                  else
                  none
                else
                none
              else
              none
            else
            none
          else
          none
        else
        none
      else
      none
    else
    none
  else
  kE v2
def lp38_57_1 : Nat → Int → Int → (List (Int)) → Option (pa38_57_1.den ⊕ pb38_57_1.den)
  | 0, _, _, _ => none
  | n + 1, v0, v1, v2 => st38_57_1 (lp38_57_1 n) (fun e0 => some (.inl ((), ((), (), ()), (e0, ())))) (some (.inr ((), ((), (), ()), ()))) v0 v1 v2
noncomputable def ls38_57_1 : LoopSum := loopBy2 k38_57_1 p38_57_1 pa38_57_1 pb38_57_1 (.exit 0) fun v => lp38_57_1 fuelN v.1.1 v.1.2.1 v.2.2.1
def fn38 (x0 : List (Int × Int × Int × Int × Unit)) (x1 : Int) : Option ((List (Int)) × Unit) :=
  obind (lp38_1 fuelN x0 x1 []) fun y0 =>
    osum y0 (fun a1 =>
      obind (lp38_57_1 fuelN 0 (subK .i64 (lenI a1.2.1) 1) a1.2.1) fun y2 =>
        osum y2 (fun a3 =>
          some (a3.2.2.1, ())) (fun b3 =>
          none)) (fun b1 =>
      some (b1.1.1, ()))
def sum38 : Sum := (⟨[.list (.pair (.int .i64) (.pair (.int .i64) (.pair (.int .i64) (.pair (.int .i64) .unit)))), .int .i64], [(.list (.int .i64), false)], fun x => fn38 x.1 x.2.1⟩ : Sum)
noncomputable def env38 : Env := envOf2 Try.prog tt [(56, sum56)] [(38, 1, k38_1), (57, 1, k38_57_1)] [(38, 1, ls38_1), (57, 1, ls38_57_1)] []
theorem step38_1 {R : Type} (x : ExecFn R) (xd : Job → St → Option AVal) (n : Nat) (K : Ex → St → Option R) (v0 : List (Int × Int × Int × Int × Unit)) (v1 : Int) (v2 : List (Int)) :
    iter (some k38_1) (run env38 x xd 38 c38_1) (n + 1) (mkSt p38_1 ((v0, v1, ()), (v2, ()))) K =
      st38_1 (fun v0 v1 v2 => iter (some k38_1) (run env38 x xd 38 c38_1) n (mkSt p38_1 ((v0, v1, ()), (v2, ()))) K) (fun e0 => K (.exit 0) (mkSt pa38_1 ((), (e0, ())))) (fun r0 => K .ret (mkSt pb38_1 ((r0, ()), ()))) v0 v1 v2 := by kernel_rfl
theorem it38_1 {R : Type} (x : ExecFn R) (xd : Job → St → Option AVal) (K : Ex → St → Option R) : ∀ (n : Nat) (v0 : List (Int × Int × Int × Int × Unit)) (v1 : Int) (v2 : List (Int)),
    iter (some k38_1) (run env38 x xd 38 c38_1) n (mkSt p38_1 ((v0, v1, ()), (v2, ()))) K = obind (lp38_1 n v0 v1 v2) fun o => osum o (fun a => K (.exit 0) (mkSt pa38_1 a)) fun b => K .ret (mkSt pb38_1 b)
  | 0, _, _, _ => rfl
  | n + 1, v0, v1, v2 => by
    rw [step38_1]
    simp only [it38_1 x xd K n, lp38_1, st38_1, obind_cond, obind_none, obind_some, obind_obind, obind_osum]
    try simp only [osum]
theorem ok38_1 : LoopOk env38 38 c38_1 ls38_1 := loopBy_ok (by kernel_rfl) fun R x xd K v o h => ⟨fuelN, (it38_1 x xd K fuelN (v.1.1) (v.1.2.1) (v.2.1)).trans (congrArg (fun o => obind o _) h)⟩
theorem step38_57_1 {R : Type} (x : ExecFn R) (xd : Job → St → Option AVal) (n : Nat) (K : Ex → St → Option R) (v0 : Int) (v1 : Int) (v2 : List (Int)) :
    iter (some k38_57_1) (run env38 x xd 57 c38_57_1) (n + 1) (mkSt2 p38_57_1 ((v0, v1, ()), ((), (), ()), (v2, ()))) K =
      st38_57_1 (fun v0 v1 v2 => iter (some k38_57_1) (run env38 x xd 57 c38_57_1) n (mkSt2 p38_57_1 ((v0, v1, ()), ((), (), ()), (v2, ()))) K) (fun e0 => K (.exit 0) (mkSt2 pa38_57_1 ((), ((), (), ()), (e0, ())))) (K .ret (mkSt2 pb38_57_1 ((), ((), (), ()), ()))) v0 v1 v2 := by kernel_rfl
theorem it38_57_1 {R : Type} (x : ExecFn R) (xd : Job → St → Option AVal) (K : Ex → St → Option R) : ∀ (n : Nat) (v0 : Int) (v1 : Int) (v2 : List (Int)),
    iter (some k38_57_1) (run env38 x xd 57 c38_57_1) n (mkSt2 p38_57_1 ((v0, v1, ()), ((), (), ()), (v2, ()))) K = obind (lp38_57_1 n v0 v1 v2) fun o => osum o (fun a => K (.exit 0) (mkSt2 pa38_57_1 a)) fun b => K .ret (mkSt2 pb38_57_1 b)
  | 0, _, _, _ => rfl
  | n + 1, v0, v1, v2 => by
    rw [step38_57_1]
    simp only [it38_57_1 x xd K n, lp38_57_1, st38_57_1, obind_cond, obind_none, obind_some, obind_obind, obind_osum]
    try simp only [osum]
theorem ok38_57_1 : LoopOk env38 57 c38_57_1 ls38_57_1 := loopBy2_ok (by kernel_rfl) fun R x xd K v o h => ⟨fuelN, (it38_57_1 x xd K fuelN (v.1.1) (v.1.2.1) (v.2.2.1)).trans (congrArg (fun o => obind o _) h)⟩
theorem run38 (x0 : List (Int × Int × Int × Int × Unit)) (x1 : Int) : runF env38 38 [.list (.pair (.int .i64) (.pair (.int .i64) (.pair (.int .i64) (.pair (.int .i64) .unit)))), .int .i64] [(.list (.int .i64), false)] (x0, x1, ()) = fn38 x0 x1 := by kernel_rfl
theorem lat38 : loopsAt b38 = [c38_1] := by kernel_rfl
theorem lok38 : loopsOk env38 38 b38 := loopsOk_at b38 (fun _ => rfl) (by rw [lat38]; exact (List.forall_mem_cons.2 ⟨(fun L h => by rw [show env38.lp 38 (firstRegion c38_1) = some ls38_1 by kernel_rfl] at h; cases h; exact ok38_1), (fun _ h => absurd h List.not_mem_nil)⟩))
theorem lat38_57 : loopsAt b38_57 = [c38_57_1] := by kernel_rfl
theorem lok38_57 : loopsOk env38 57 b38_57 := loopsOk_at b38_57 (fun _ => rfl) (by rw [lat38_57]; exact (List.forall_mem_cons.2 ⟨(fun L h => by rw [show env38.lp 57 (firstRegion c38_57_1) = some ls38_57_1 by kernel_rfl] at h; cases h; exact ok38_57_1), (fun _ h => absurd h List.not_mem_nil)⟩))
theorem env38_ok : EnvOk env38 := envOf2_ok tok mixed noGor (sg := [(56, sum56)]) (List.forall_mem_cons.2 ⟨(sum56_ok), (fun _ h => absurd h List.not_mem_nil)⟩) [38, 57] (by kernel_rfl) (by kernel_rfl) (List.forall_mem_cons.2 ⟨⟨Try.f38, b38, by kernel_rfl, by kernel_rfl, lok38⟩, (List.forall_mem_cons.2 ⟨⟨Try.f57, b38_57, by kernel_rfl, by kernel_rfl, lok38_57⟩, (fun _ h => absurd h List.not_mem_nil)⟩)⟩) rf_ok chk_ok
theorem sum38_ok : SumOk Try.prog 38 sum38 := sum_of_run env38_ok (by decide) fun x y h => (run38 (x.1) (x.2.1)).trans h

/-! ### quillwort/quillwortref12.Nests -/
def fn33 (x0 : Int) : Option (Bool × Unit) :=
  bif (leI 9 x0) then
    bif (leI x0 14) then
      some (true, ())
    else
    some ((eqI x0 16), ())
  else
  some ((eqI x0 16), ())
def sum33 : Sum := (⟨[.int .i64], [(.bool, false)], fun x => fn33 x.1⟩ : Sum)
noncomputable def env33 : Env := envOf Try.prog tt 33 [] [] []
theorem run33 (x0 : Int) : runF env33 33 [.int .i64] [(.bool, false)] (x0, ()) = fn33 x0 := by kernel_rfl
theorem env33_ok : EnvOk env33 := envOf_ok tok mixed noGor (sg := []) (fun _ h => absurd h List.not_mem_nil) (fn := Try.f33) (c := (Try.f33.body).getD .skip) (by kernel_rfl) (by kernel_rfl) (loopsOk_none (fun _ => rfl) (fun _ => rfl) _) rf_ok chk_ok
theorem sum33_ok : SumOk Try.prog 33 sum33 := sum_of_run env33_ok (by decide) fun x y h => (run33 (x.1)).trans h

/-! ### quillwort/rules.Deep -/
noncomputable def b22 : Code := (Try.f22.body).getD .skip
noncomputable def c22_3 : Code := cA (cA (cB (cA (cB (cB (b22))))))
def k22_3 : Keep := ⟨[0, 1, 5, 10, 11, 12, 100003], [], [5], [], [4], []⟩
def p22_3 : SP := ⟨us [.v (.list (.pair (.int .i64) (.pair (.int .i64) (.pair (.int .i64) (.pair (.int .i64) .unit))))), .v (.int .i64), .u, .u, .u, .v (.int .i64), .u, .u, .u, .u, .v (.list (.int .i64)), .v (.int .i64), .v (.int .i64)] 36, []⟩
def pa22_3 : SP := ⟨us [.u, .u, .u, .u, .u, .v (.int .i64)] 43, []⟩
def pb22_3 : SP := ⟨us [.u, .u, .u, .u, .v (.int .i64)] 44, []⟩
def st22_3 {γ : Type} (rec : (List (Int × Int × Int × Int × Unit)) → Int → Int → (List (Int)) → Int → Int → Option γ) (kE : Int → Option γ) (kR : Int → Option γ) (v0 : List (Int × Int × Int × Int × Unit)) (v1 : Int) (v2 : Int) (v3 : List (Int)) (v4 : Int) (v5 : Int) : Option γ :=
  bif (ltI v5 v4) then
    bif (inI v3 v5) then
      bif (!(eqI (getI v3 0 v5) v1)) then
        bif (inI v0 (getI v3 0 v5)) then
          bif (ltI 0 (getI v0 (0, (0, (0, (0, ())))) (getI v3 0 v5)).1) then
            bif (inI v0 (getI v3 0 v5)) then
              bif (ltI (getI v0 (0, (0, (0, (0, ())))) (getI v3 0 v5)).1 19) then
                bif (inI v0 (getI v3 0 v5)) then
                  bif (inI [63, 80, 76, 65, 73, 83, 88, 87, 82, 66, 85, 70, 72, 79, 67, 84, 78, 69, 77] (getI v0 (0, (0, (0, (0, ())))) (getI v3 0 v5)).1) then
                    obind (fn39 [66, 85, 70, 72, 79, 67, 78] (byteAt [63, 80, 76, 65, 73, 83, 88, 87, 82, 66, 85, 70, 72, 79, 67, 84, 78, 69, 77] (getI v0 (0, (0, (0, (0, ())))) (getI v3 0 v5)).1)) fun y0 =>
                      bif (leI 0 y0.1) then
                        rec v0 v1 (addK .i64 v2 1) v3 v4 (addK .i64 v5 1)
                      else
                      rec v0 v1 v2 v3 v4 (addK .i64 v5 1)
                  else
                  none
                else
                none
              else
              rec v0 v1 v2 v3 v4 (addK .i64 v5 1)
            else
            none
          else
          rec v0 v1 v2 v3 v4 (addK .i64 v5 1)
        else
        none
      else
      rec v0 v1 v2 v3 v4 (addK .i64 v5 1)
    else
    none
  else
  kE v2
def lp22_3 : Nat → (List (Int × Int × Int × Int × Unit)) → Int → Int → (List (Int)) → Int → Int → Option (pa22_3.den ⊕ pb22_3.den)
  | 0, _, _, _, _, _, _ => none
  | n + 1, v0, v1, v2, v3, v4, v5 => st22_3 (lp22_3 n) (fun e0 => some (.inl ((e0, ()), ()))) (fun r0 => some (.inr ((r0, ()), ()))) v0 v1 v2 v3 v4 v5
noncomputable def ls22_3 : LoopSum := loopBy k22_3 p22_3 pa22_3 pb22_3 (.exit 0) fun v => lp22_3 fuelN v.1.1 v.1.2.1 v.1.2.2.1 v.1.2.2.2.1 v.1.2.2.2.2.1 v.1.2.2.2.2.2.1
def fn22 (x0 : List (Int × Int × Int × Int × Unit)) (x1 : Int) : Option (Int × Unit) :=
  obind (fn38 x0 x1) fun y0 =>
    obind (lp22_3 fuelN x0 x1 0 y0.1 (lenI y0.1) 0) fun y1 =>
      osum y1 (fun a2 =>
        some (a2.1.1, ())) (fun b2 =>
        some (b2.1.1, ()))
def sum22 : Sum := (⟨[.list (.pair (.int .i64) (.pair (.int .i64) (.pair (.int .i64) (.pair (.int .i64) .unit)))), .int .i64], [(.int .i64, false)], fun x => fn22 x.1 x.2.1⟩ : Sum)
noncomputable def env22 : Env := envOf Try.prog tt 22 [(38, sum38), (39, sum39)] [(3, k22_3)] [(3, ls22_3)]
theorem step22_3 {R : Type} (x : ExecFn R) (xd : Job → St → Option AVal) (n : Nat) (K : Ex → St → Option R) (v0 : List (Int × Int × Int × Int × Unit)) (v1 : Int) (v2 : Int) (v3 : List (Int)) (v4 : Int) (v5 : Int) :
    iter (some k22_3) (run env22 x xd 22 c22_3) (n + 1) (mkSt p22_3 ((v0, v1, v2, v3, v4, v5, ()), ())) K =
      st22_3 (fun v0 v1 v2 v3 v4 v5 => iter (some k22_3) (run env22 x xd 22 c22_3) n (mkSt p22_3 ((v0, v1, v2, v3, v4, v5, ()), ())) K) (fun e0 => K (.exit 0) (mkSt pa22_3 ((e0, ()), ()))) (fun r0 => K .ret (mkSt pb22_3 ((r0, ()), ()))) v0 v1 v2 v3 v4 v5 := by kernel_rfl
theorem it22_3 {R : Type} (x : ExecFn R) (xd : Job → St → Option AVal) (K : Ex → St → Option R) : ∀ (n : Nat) (v0 : List (Int × Int × Int × Int × Unit)) (v1 : Int) (v2 : Int) (v3 : List (Int)) (v4 : Int) (v5 : Int),
    iter (some k22_3) (run env22 x xd 22 c22_3) n (mkSt p22_3 ((v0, v1, v2, v3, v4, v5, ()), ())) K = obind (lp22_3 n v0 v1 v2 v3 v4 v5) fun o => osum o (fun a => K (.exit 0) (mkSt pa22_3 a)) fun b => K .ret (mkSt pb22_3 b)
  | 0, _, _, _, _, _, _ => rfl
  | n + 1, v0, v1, v2, v3, v4, v5 => by
    rw [step22_3]
    simp only [it22_3 x xd K n, lp22_3, st22_3, obind_cond, obind_none, obind_some, obind_obind, obind_osum]
    try simp only [osum]
theorem ok22_3 : LoopOk env22 22 c22_3 ls22_3 := loopBy_ok (by kernel_rfl) fun R x xd K v o h => ⟨fuelN, (it22_3 x xd K fuelN (v.1.1) (v.1.2.1) (v.1.2.2.1) (v.1.2.2.2.1) (v.1.2.2.2.2.1) (v.1.2.2.2.2.2.1)).trans (congrArg (fun o => obind o _) h)⟩
theorem run22 (x0 : List (Int × Int × Int × Int × Unit)) (x1 : Int) : runF env22 22 [.list (.pair (.int .i64) (.pair (.int .i64) (.pair (.int .i64) (.pair (.int .i64) .unit)))), .int .i64] [(.int .i64, false)] (x0, x1, ()) = fn22 x0 x1 := by kernel_rfl
theorem lat22 : loopsAt b22 = [c22_3] := by kernel_rfl
theorem lok22 : loopsOk env22 22 b22 := loopsOk_at b22 (fun _ => rfl) (by rw [lat22]; exact (List.forall_mem_cons.2 ⟨(fun L h => by rw [show env22.lp 22 (firstRegion c22_3) = some ls22_3 by kernel_rfl] at h; cases h; exact ok22_3), (fun _ h => absurd h List.not_mem_nil)⟩))
theorem env22_ok : EnvOk env22 := envOf_ok tok mixed noGor (sg := [(38, sum38), (39, sum39)]) (List.forall_mem_cons.2 ⟨(sum38_ok), (List.forall_mem_cons.2 ⟨(sum39_ok), (fun _ h => absurd h List.not_mem_nil)⟩)⟩) (fn := Try.f22) (c := b22) (by kernel_rfl) (by kernel_rfl) lok22 rf_ok chk_ok
theorem sum22_ok : SumOk Try.prog 22 sum22 := sum_of_run env22_ok (by decide) fun x y h => (run22 (x.1) (x.2.1)).trans h

/-! ### quillwort/quillwortref12.Deep -/
noncomputable def b23 : Code := (Try.f23.body).getD .skip
noncomputable def c23_3 : Code := cA (cA (cB (cA (cB (cB (b23))))))
def k23_3 : Keep := ⟨[0, 1, 5, 6, 100003], [], [5], [], [4], []⟩
def p23_3 : SP := ⟨us [.v (.list (.pair (.int .i64) (.pair (.int .i64) (.pair (.int .i64) (.pair (.int .i64) .unit))))), .v (.int .i64), .u, .u, .u, .v (.int .i64), .v (.int .i64)] 20, []⟩
def pa23_3 : SP := ⟨us [.u, .u, .u, .u, .u, .v (.int .i64)] 21, []⟩
def pb23_3 : SP := ⟨us [.u, .u, .u, .u, .v (.int .i64)] 22, []⟩
def st23_3 {γ : Type} (rec : (List (Int × Int × Int × Int × Unit)) → Int → Int → Int → Option γ) (kE : Int → Option γ) (kR : Int → Option γ) (v0 : List (Int × Int × Int × Int × Unit)) (v1 : Int) (v2 : Int) (v3 : Int) : Option γ :=
  bif (ltI v3 v1) then
    bif (inI v0 v3) then
      obind (fn33 (getI v0 (0, (0, (0, (0, ())))) v3).1) fun y0 =>
        bif y0.1 then
          obind (fn30 v0 v3 v1) fun y1 =>
            bif y1.1 then
              rec v0 v1 (addK .i64 v2 1) (addK .i64 v3 1)
            else
            rec v0 v1 v2 (addK .i64 v3 1)
        else
        rec v0 v1 v2 (addK .i64 v3 1)
    else
    none
  else
  kE v2
def lp23_3 : Nat → (List (Int × Int × Int × Int × Unit)) → Int → Int → Int → Option (pa23_3.den ⊕ pb23_3.den)
  | 0, _, _, _, _ => none
  | n + 1, v0, v1, v2, v3 => st23_3 (lp23_3 n) (fun e0 => some (.inl ((e0, ()), ()))) (fun r0 => some (.inr ((r0, ()), ()))) v0 v1 v2 v3
noncomputable def ls23_3 : LoopSum := loopBy k23_3 p23_3 pa23_3 pb23_3 (.exit 0) fun v => lp23_3 fuelN v.1.1 v.1.2.1 v.1.2.2.1 v.1.2.2.2.1
def fn23 (x0 : List (Int × Int × Int × Int × Unit)) (x1 : Int) : Option (Int × Unit) :=
  obind (lp23_3 fuelN x0 x1 0 0) fun y0 =>
    osum y0 (fun a1 =>
      some (a1.1.1, ())) (fun b1 =>
      some (b1.1.1, ()))
def sum23 : Sum := (⟨[.list (.pair (.int .i64) (.pair (.int .i64) (.pair (.int .i64) (.pair (.int .i64) .unit)))), .int .i64], [(.int .i64, false)], fun x => fn23 x.1 x.2.1⟩ : Sum)
noncomputable def env23 : Env := envOf Try.prog tt 23 [(30, sum30), (33, sum33)] [(3, k23_3)] [(3, ls23_3)]
theorem step23_3 {R : Type} (x : ExecFn R) (xd : Job → St → Option AVal) (n : Nat) (K : Ex → St → Option R) (v0 : List (Int × Int × Int × Int × Unit)) (v1 : Int) (v2 : Int) (v3 : Int) :
    iter (some k23_3) (run env23 x xd 23 c23_3) (n + 1) (mkSt p23_3 ((v0, v1, v2, v3, ()), ())) K =
      st23_3 (fun v0 v1 v2 v3 => iter (some k23_3) (run env23 x xd 23 c23_3) n (mkSt p23_3 ((v0, v1, v2, v3, ()), ())) K) (fun e0 => K (.exit 0) (mkSt pa23_3 ((e0, ()), ()))) (fun r0 => K .ret (mkSt pb23_3 ((r0, ()), ()))) v0 v1 v2 v3 := by kernel_rfl
theorem it23_3 {R : Type} (x : ExecFn R) (xd : Job → St → Option AVal) (K : Ex → St → Option R) : ∀ (n : Nat) (v0 : List (Int × Int × Int × Int × Unit)) (v1 : Int) (v2 : Int) (v3 : Int),
    iter (some k23_3) (run env23 x xd 23 c23_3) n (mkSt p23_3 ((v0, v1, v2, v3, ()), ())) K = obind (lp23_3 n v0 v1 v2 v3) fun o => osum o (fun a => K (.exit 0) (mkSt pa23_3 a)) fun b => K .ret (mkSt pb23_3 b)
  | 0, _, _, _, _ => rfl
  | n + 1, v0, v1, v2, v3 => by
    rw [step23_3]
    simp only [it23_3 x xd K n, lp23_3, st23_3, obind_cond, obind_none, obind_some, obind_obind, obind_osum]
    try simp only [osum]
theorem ok23_3 : LoopOk env23 23 c23_3 ls23_3 := loopBy_ok (by kernel_rfl) fun R x xd K v o h => ⟨fuelN, (it23_3 x xd K fuelN (v.1.1) (v.1.2.1) (v.1.2.2.1) (v.1.2.2.2.1)).trans (congrArg (fun o => obind o _) h)⟩
theorem run23 (x0 : List (Int × Int × Int × Int × Unit)) (x1 : Int) : runF env23 23 [.list (.pair (.int .i64) (.pair (.int .i64) (.pair (.int .i64) (.pair (.int .i64) .unit)))), .int .i64] [(.int .i64, false)] (x0, x1, ()) = fn23 x0 x1 := by kernel_rfl
theorem lat23 : loopsAt b23 = [c23_3] := by kernel_rfl
theorem lok23 : loopsOk env23 23 b23 := loopsOk_at b23 (fun _ => rfl) (by rw [lat23]; exact (List.forall_mem_cons.2 ⟨(fun L h => by rw [show env23.lp 23 (firstRegion c23_3) = some ls23_3 by kernel_rfl] at h; cases h; exact ok23_3), (fun _ h => absurd h List.not_mem_nil)⟩))
theorem env23_ok : EnvOk env23 := envOf_ok tok mixed noGor (sg := [(30, sum30), (33, sum33)]) (List.forall_mem_cons.2 ⟨(sum30_ok), (List.forall_mem_cons.2 ⟨(sum33_ok), (fun _ h => absurd h List.not_mem_nil)⟩)⟩) (fn := Try.f23) (c := b23) (by kernel_rfl) (by kernel_rfl) lok23 rf_ok chk_ok
theorem sum23_ok : SumOk Try.prog 23 sum23 := sum_of_run env23_ok (by decide) fun x y h => (run23 (x.1) (x.2.1)).trans h

/-! ### quillwort/rules.Name -/
def fn24 (x0 : Int) : Option ((List UInt8) × Unit) :=
  bif (ltI x0 0) then
    some ([], ())
  else
  bif (leI (lenI [[], [112, 114, 111, 103, 114, 97, 109], [108, 105, 115, 116], [97, 110, 100, 45, 111, 114], [112, 105, 112, 101], [115, 105, 109, 112, 108, 101], [97, 115, 115, 105, 103, 110], [119, 111, 114, 100], [114, 101, 100, 105, 114, 101, 99, 116], [98, 114, 97, 99, 101], [115, 117, 98, 115, 104, 101, 108, 108], [105, 102], [108, 111, 111, 112], [102, 111, 114], [99, 97, 115, 101], [105, 116, 101, 109], [102, 117, 110, 99, 116, 105, 111, 110], [101, 114, 114, 111, 114], [109, 105, 115, 115, 105, 110, 103]]) x0) then
    some ([], ())
  else
  bif (inI [[], [112, 114, 111, 103, 114, 97, 109], [108, 105, 115, 116], [97, 110, 100, 45, 111, 114], [112, 105, 112, 101], [115, 105, 109, 112, 108, 101], [97, 115, 115, 105, 103, 110], [119, 111, 114, 100], [114, 101, 100, 105, 114, 101, 99, 116], [98, 114, 97, 99, 101], [115, 117, 98, 115, 104, 101, 108, 108], [105, 102], [108, 111, 111, 112], [102, 111, 114], [99, 97, 115, 101], [105, 116, 101, 109], [102, 117, 110, 99, 116, 105, 111, 110], [101, 114, 114, 111, 114], [109, 105, 115, 115, 105, 110, 103]] x0) then
    bif (ltL (natI x0) [[], [112, 114, 111, 103, 114, 97, 109], [108, 105, 115, 116], [97, 110, 100, 45, 111, 114], [112, 105, 112, 101], [115, 105, 109, 112, 108, 101], [97, 115, 115, 105, 103, 110], [119, 111, 114, 100], [114, 101, 100, 105, 114, 101, 99, 116], [98, 114, 97, 99, 101], [115, 117, 98, 115, 104, 101, 108, 108], [105, 102], [108, 111, 111, 112], [102, 111, 114], [99, 97, 115, 101], [105, 116, 101, 109], [102, 117, 110, 99, 116, 105, 111, 110], [101, 114, 114, 111, 114], [109, 105, 115, 115, 105, 110, 103]]) then
      some ((nthN [[], [112, 114, 111, 103, 114, 97, 109], [108, 105, 115, 116], [97, 110, 100, 45, 111, 114], [112, 105, 112, 101], [115, 105, 109, 112, 108, 101], [97, 115, 115, 105, 103, 110], [119, 111, 114, 100], [114, 101, 100, 105, 114, 101, 99, 116], [98, 114, 97, 99, 101], [115, 117, 98, 115, 104, 101, 108, 108], [105, 102], [108, 111, 111, 112], [102, 111, 114], [99, 97, 115, 101], [105, 116, 101, 109], [102, 117, 110, 99, 116, 105, 111, 110], [101, 114, 114, 111, 114], [109, 105, 115, 115, 105, 110, 103]] [] (natI x0)), ())
    else
    none
  else
  none
def sum24 : Sum := (⟨[.int .i64], [(.str, false)], fun x => fn24 x.1⟩ : Sum)
noncomputable def env24 : Env := envOf Try.prog tt 24 [] [] []
theorem run24 (x0 : Int) : runF env24 24 [.int .i64] [(.str, false)] (x0, ()) = fn24 x0 := by kernel_rfl
theorem env24_ok : EnvOk env24 := envOf_ok tok mixed noGor (sg := []) (fun _ h => absurd h List.not_mem_nil) (fn := Try.f24) (c := (Try.f24.body).getD .skip) (by kernel_rfl) (by kernel_rfl) (loopsOk_none (fun _ => rfl) (fun _ => rfl) _) rf_ok chk_ok
theorem sum24_ok : SumOk Try.prog 24 sum24 := sum_of_run env24_ok (by decide) fun x y h => (run24 (x.1)).trans h

/-! ### quillwort/quillwortlaw12.RulesNames -/
def fn7 (x0 : Int) (x1 : Int) : Option (Bool × Unit) :=
  obind (fn24 x0) fun y0 =>
    bif (leI 1 x0) then
      bif (eqB (!(eqS y0.1 [])) (leI x0 18)) then
        bif (eqS y0.1 []) then
          some (true, ())
        else
        bif (eqI x0 x1) then
          some (true, ())
        else
        obind (fn24 x1) fun y1 =>
          some ((!(eqS y0.1 y1.1)), ())
      else
      some (false, ())
    else
    bif (eqB (!(eqS y0.1 [])) false) then
      bif (eqS y0.1 []) then
        some (true, ())
      else
      bif (eqI x0 x1) then
        some (true, ())
      else
      obind (fn24 x1) fun y1 =>
        some ((!(eqS y0.1 y1.1)), ())
    else
    some (false, ())
def sum7 : Sum := (⟨[.int .i64, .int .i64], [(.bool, false)], fun x => fn7 x.1 x.2.1⟩ : Sum)
noncomputable def env7 : Env := envOf Try.prog tt 7 [(9, sumAwake), (24, sum24)] [] []
theorem run7 (x0 : Int) (x1 : Int) : runF env7 7 [.int .i64, .int .i64] [(.bool, false)] (x0, x1, ()) = fn7 x0 x1 := by kernel_rfl
theorem env7_ok : EnvOk env7 := envOf_ok tok mixed noGor (sg := [(9, sumAwake), (24, sum24)]) (List.forall_mem_cons.2 ⟨(sumAwake_ok), (List.forall_mem_cons.2 ⟨(sum24_ok), (fun _ h => absurd h List.not_mem_nil)⟩)⟩) (fn := Try.f7) (c := (Try.f7.body).getD .skip) (by kernel_rfl) (by kernel_rfl) (loopsOk_none (fun _ => rfl) (fun _ => rfl) _) rf_ok chk_ok
theorem sum7_ok : SumOk Try.prog 7 sum7 := sum_of_run env7_ok (by decide) fun x y h => (run7 (x.1) (x.2.1)).trans h

/-! ### quillwort/quillwortlaw12.RulesDeep -/
def fn6 (x0 : List (Int × Int × Int × Int × Unit)) (x1 : Int) : Option (Bool × Unit) :=
  bif (eqI (lenI x0) 0) then
    some (true, ())
  else
  bif (ltI 60 (lenI x0)) then
    some (true, ())
  else
  bif (ltI x1 0) then
    some (true, ())
  else
  bif (leI (lenI x0) x1) then
    some (true, ())
  else
  bif (inI x0 0) then
    obind (fn15 x0 (getI x0 (0, (0, (0, (0, ())))) 0).2.2.1) fun y0 =>
      bif (!y0.1) then
        some (true, ())
      else
      obind (fn22 x0 x1) fun y1 =>
        obind (fn23 x0 x1) fun y2 =>
          some ((eqI y1.1 y2.1), ())
  else
  none
def sum6 : Sum := (⟨[.list (.pair (.int .i64) (.pair (.int .i64) (.pair (.int .i64) (.pair (.int .i64) .unit)))), .int .i64], [(.bool, false)], fun x => fn6 x.1 x.2.1⟩ : Sum)
noncomputable def env6 : Env := envOf Try.prog tt 6 [(9, sumAwake), (15, sum15), (22, sum22), (23, sum23)] [] []
theorem run6 (x0 : List (Int × Int × Int × Int × Unit)) (x1 : Int) : runF env6 6 [.list (.pair (.int .i64) (.pair (.int .i64) (.pair (.int .i64) (.pair (.int .i64) .unit)))), .int .i64] [(.bool, false)] (x0, x1, ()) = fn6 x0 x1 := by kernel_rfl
theorem env6_ok : EnvOk env6 := envOf_ok tok mixed noGor (sg := [(9, sumAwake), (15, sum15), (22, sum22), (23, sum23)]) (List.forall_mem_cons.2 ⟨(sumAwake_ok), (List.forall_mem_cons.2 ⟨(sum15_ok), (List.forall_mem_cons.2 ⟨(sum22_ok), (List.forall_mem_cons.2 ⟨(sum23_ok), (fun _ h => absurd h List.not_mem_nil)⟩)⟩)⟩)⟩) (fn := Try.f6) (c := (Try.f6.body).getD .skip) (by kernel_rfl) (by kernel_rfl) (loopsOk_none (fun _ => rfl) (fun _ => rfl) _) rf_ok chk_ok
theorem sum6_ok : SumOk Try.prog 6 sum6 := sum_of_run env6_ok (by decide) fun x y h => (run6 (x.1) (x.2.1)).trans h

end Go.Proofs.Ytkloefipjbeneaa
