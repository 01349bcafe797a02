/-
  The plain functions of some functions of the program, and that they are computed.
-/
import Derived.Test.YtkloefipjbeneaaE
import Derived.Test.YtkloefipjbeneaaBc
namespace Go.Proofs.Ytkloefipjbeneaa
open Go.RowKit
set_option linter.unusedVariables false
set_option linter.unusedSimpArgs false
set_option maxRecDepth 100000

def sumAwake : Sum := ⟨[], [(.bool, false)], fun _ => some (true, ())⟩
theorem sumAwake_ok : SumOk Try.prog 9 sumAwake := sum_of_run env0_ok (by decide) fun x y h => by
  cases h
  exact (show runF env0 9 [] [(.bool, false)] () = some (true, ()) by kernel_rfl)

/-! ### quillwort/quillwortlaw12.Short -/
noncomputable def b12 : Code := (Try.f12.body).getD .skip
noncomputable def c12_4 : Code := cA (cA (cB (cA (cB (cB (b12))))))
def k12_4 : Keep := ⟨[0, 5, 100004], [], [], [], [4], []⟩
def p12_4 : SP := ⟨us [.v (.list (.pair (.int .i64) (.pair .str (.pair (.int .i64) (.pair (.int .i64) .unit))))), .u, .u, .u, .u, .v (.int .i64)] 17, []⟩
def pa12_4 : SP := ⟨us [] 23, []⟩
def pb12_4 : SP := ⟨us [.u, .u, .u, .u, .v .bool] 18, []⟩
def st12_4 {γ : Type} (rec : (List (Int × (List UInt8) × (Int × Int × Unit))) → Int → Option γ) (kE : Option γ) (kR : Bool → Option γ) (v0 : List (Int × (List UInt8) × (Int × Int × Unit))) (v1 : Int) : Option γ :=
  bif (ltI v1 (lenI v0)) then
    bif (inI v0 v1) then
      bif (ltI 60 (lenI (getI v0 (0, ([], (0, (0, ())))) v1).2.1)) then
        kR false
      else
      rec v0 (addK .i64 v1 1)
    else
    none
  else
  kE 
def lp12_4 : Nat → (List (Int × (List UInt8) × (Int × Int × Unit))) → Int → Option (pa12_4.den ⊕ pb12_4.den)
  | 0, _, _ => none
  | n + 1, v0, v1 => st12_4 (lp12_4 n) (some (.inl ((), ()))) (fun r0 => some (.inr ((r0, ()), ()))) v0 v1
noncomputable def ls12_4 : LoopSum := loopBy k12_4 p12_4 pa12_4 pb12_4 (.exit 0) (fun v => lp12_4 fuelN v.1.1 v.1.2.1) 6
def fn12 (x0 : List (Int × (List UInt8) × (Int × Int × Unit))) (x1 : Int) : Option (Bool × Unit) :=
  bif (ltI x1 (lenI x0)) then
    some (false, ())
  else
  obind (lp12_4 fuelN x0 0) fun y0 =>
    osum y0 (fun a1 =>
      some (true, ())) (fun b1 =>
      some (b1.1.1, ()))
def sum12 : Sum := (⟨[.list (.pair (.int .i64) (.pair .str (.pair (.int .i64) (.pair (.int .i64) .unit)))), .int .i64], [(.bool, false)], fun x => fn12 x.1 x.2.1⟩ : Sum)
noncomputable def env12 : Env := envOf Try.prog tt 12 [] [(4, k12_4)] [(4, ls12_4)]
theorem step12_4 {R : Type} (d : Nat) (n : Nat) (K : Ex → St → Option R) (v0 : List (Int × (List UInt8) × (Int × Int × Unit))) (v1 : Int) :
    iter (some k12_4) (runD env12 (d + 6) 12 c12_4) (n + 1) (mkSt p12_4 ((v0, v1, ()), ())) K =
      st12_4 (fun v0 v1 => iter (some k12_4) (runD env12 (d + 6) 12 c12_4) n (mkSt p12_4 ((v0, v1, ()), ())) K) (K (.exit 0) (mkSt pa12_4 ((), ()))) (fun r0 => K .ret (mkSt pb12_4 ((r0, ()), ()))) v0 v1 := by kernel_rfl
theorem it12_4 {R : Type} (d : Nat) (K : Ex → St → Option R) : ∀ (n : Nat) (v0 : List (Int × (List UInt8) × (Int × Int × Unit))) (v1 : Int),
    iter (some k12_4) (runD env12 (d + 6) 12 c12_4) n (mkSt p12_4 ((v0, v1, ()), ())) K = obind (lp12_4 n v0 v1) fun o => osum o (fun a => K (.exit 0) (mkSt pa12_4 a)) fun b => K .ret (mkSt pb12_4 b)
  | 0, _, _ => rfl
  | n + 1, v0, v1 => by
    rw [step12_4]
    simp only [it12_4 d K n, lp12_4, st12_4, obind_cond, obind_none, obind_some, obind_obind, obind_osum]
    try simp only [osum]
theorem ok12_4 : LoopOk env12 12 c12_4 ls12_4 := loopBy_ok (by kernel_rfl) fun R d K v o h => ⟨fuelN, (it12_4 d K fuelN (v.1.1) (v.1.2.1)).trans (congrArg (fun o => obind o _) h)⟩
theorem run12 (x0 : List (Int × (List UInt8) × (Int × Int × Unit))) (x1 : Int) : runF env12 12 [.list (.pair (.int .i64) (.pair .str (.pair (.int .i64) (.pair (.int .i64) .unit)))), .int .i64] [(.bool, false)] (x0, x1, ()) = fn12 x0 x1 := by kernel_rfl
theorem lat12 : loopsAt b12 = [c12_4] := by kernel_rfl
theorem lok12 : loopsOk env12 12 b12 := loopsOk_at b12 (fun _ => rfl) (by rw [lat12]; exact (List.forall_mem_cons.2 ⟨(fun L h => by rw [show env12.lp 12 (firstRegion c12_4) = some ls12_4 by kernel_rfl] at h; cases h; exact ok12_4), (fun _ h => absurd h List.not_mem_nil)⟩))
theorem env12_ok : EnvOk env12 := envOf_ok tok mixed noGor (sg := []) (fun _ h => absurd h List.not_mem_nil) (fn := Try.f12) (c := b12) (by kernel_rfl) (by kernel_rfl) lok12 rf_ok chk_ok
theorem sum12_ok : SumOk Try.prog 12 sum12 := sum_of_run env12_ok (by decide) fun x y h => (run12 (x.1) (x.2.1)).trans h

/-! ### quillwort/tree.fits -/
def fn60 (x0 : Int × Int × Int × Int × Unit) : Option (Bool × Unit) :=
  bif (leI 1 x0.1) then
    bif (leI x0.1 18) then
      some ((leI x0.2.1 x0.2.2.1), ())
    else
    some (false, ())
  else
  some (false, ())
def sum60 : Sum := (⟨[.pair (.int .i64) (.pair (.int .i64) (.pair (.int .i64) (.pair (.int .i64) .unit)))], [(.bool, false)], fun x => fn60 x.1⟩ : Sum)
noncomputable def env60 : Env := envOf Try.prog tt 60 [] [] []
theorem run60 (x0 : Int × Int × Int × Int × Unit) : runF env60 60 [.pair (.int .i64) (.pair (.int .i64) (.pair (.int .i64) (.pair (.int .i64) .unit)))] [(.bool, false)] (x0, ()) = fn60 x0 := by kernel_rfl
theorem env60_ok : EnvOk env60 := envOf_ok tok mixed noGor (sg := []) (fun _ h => absurd h List.not_mem_nil) (fn := Try.f60) (c := (Try.f60.body).getD .skip) (by kernel_rfl) (by kernel_rfl) (loopsOk_none (fun _ => rfl) (fun _ => rfl) _) rf_ok chk_ok
theorem sum60_ok : SumOk Try.prog 60 sum60 := sum_of_run env60_ok (by decide) fun x y h => (run60 (x.1)).trans h

/-! ### quillwort/tree.Check -/
noncomputable def b42 : Code := (Try.f42.body).getD .skip
noncomputable def c42_9 : Code := cA (cA (cA (cB (cA (cA (cB (cA (cA (cB (cA (cB (cB (cB (cB (b42)))))))))))))))
noncomputable def c42_6 : Code := cA (cA (cB (cA (cB (cB (cB (cB (b42))))))))
def k42_9 : Keep := ⟨[0, 5, 6, 7, 8, 100009], [(5, (.int .i64))], [0, 5, 6, 7, 8], [], [4], []⟩
def k42_6 : Keep := ⟨[0, 5, 6, 7, 100006], [], [], [], [4], []⟩
def p42_9 : SP := ⟨us [.v (.list (.pair (.int .i64) (.pair (.int .i64) (.pair (.int .i64) (.pair (.int .i64) .unit))))), .u, .u, .u, .u, .slc 1000041, .slc 1000044, .v (.int .i64), .ptr 1000008 0] 111, [.box 1000008 43 [.v (.int .i64), .v (.int .i64), .v (.int .i64), .v (.int .i64)], .arr 1000044 (.int .i64), .arr 1000041 (.int .i64)]⟩
def pa42_9 : SP := ⟨us [.v (.list (.pair (.int .i64) (.pair (.int .i64) (.pair (.int .i64) (.pair (.int .i64) .unit))))), .u, .u, .u, .u, .slc 1000041, .slc 1000044, .v (.int .i64), .ptr 1000008 0] 111, [.box 1000008 43 [.v (.int .i64), .v (.int .i64), .v (.int .i64), .v (.int .i64)], .arr 1000044 (.int .i64), .arr 1000041 (.int .i64)]⟩
def pb42_9 : SP := ⟨us [.u, .u, .u, .u, .v .bool] 115, []⟩
def st42_9 {γ : Type} (rec : (List (Int × Int × Int × Int × Unit)) → Int → Int → Int → Int → Int → (List (Int)) → (List (Int)) → Option γ) (kE : (List (Int × Int × Int × Int × Unit)) → Int → Int → Int → Int → Int → (List (Int)) → (List (Int)) → Option γ) (kR : Bool → Option γ) (v0 : List (Int × Int × Int × Int × Unit)) (v1 : Int) (v2 : Int) (v3 : Int) (v4 : Int) (v5 : Int) (v6 : List (Int)) (v7 : List (Int)) : Option γ :=
  bif (ltI 0 (lenI v7)) then
    bif (inI v7 (subK .i64 (lenI v7) 1)) then
      bif (ltL (natI (subK .i64 (lenI v7) 1)) v7) then
        bif (!(eqI (nthN v7 0 (natI (subK .i64 (lenI v7) 1))) v5)) then
          bif (partI (lenI v7) 0 (subK .i64 (lenI v7) 1)) then
            rec v0 v1 v2 v3 v4 v5 v6 (takeN v7 (natI (subK .i64 (lenI v7) 1)))
          else
          none
        else
        kE v0 v1 v2 v3 v4 v5 v6 v7
      else
      none
    else
    none
  else
  kE v0 v1 v2 v3 v4 v5 v6 v7
def lp42_9 : Nat → (List (Int × Int × Int × Int × Unit)) → Int → Int → Int → Int → Int → (List (Int)) → (List (Int)) → Option (pa42_9.den ⊕ pb42_9.den)
  | 0, _, _, _, _, _, _, _, _ => none
  | n + 1, v0, v1, v2, v3, v4, v5, v6, v7 => st42_9 (lp42_9 n) (fun e0 e1 e2 e3 e4 e5 e6 e7 => some (.inl ((e0, e1, ()), ((e2, e3, e4, e5, ()), e6, e7, ())))) (fun r0 => some (.inr ((r0, ()), ()))) v0 v1 v2 v3 v4 v5 v6 v7
noncomputable def ls42_9 : LoopSum := loopBy k42_9 p42_9 pa42_9 pb42_9 (.exit 2) (fun v => lp42_9 fuelN v.1.1 v.1.2.1 v.2.1.1 v.2.1.2.1 v.2.1.2.2.1 v.2.1.2.2.2.1 v.2.2.1 v.2.2.2.1) 6
def p42_6 : SP := ⟨us [.v (.list (.pair (.int .i64) (.pair (.int .i64) (.pair (.int .i64) (.pair (.int .i64) .unit))))), .u, .u, .u, .u, .slc 1000041, .slc 1000044, .v (.int .i64)] 112, [.arr 1000044 (.int .i64), .arr 1000041 (.int .i64)]⟩
def pa42_6 : SP := ⟨us [] 120, []⟩
def pb42_6 : SP := ⟨us [.u, .u, .u, .u, .v .bool] 115, []⟩
def st42_6 {γ : Type} (rec : (List (Int × Int × Int × Int × Unit)) → Int → (List (Int)) → (List (Int)) → Option γ) (kE : Option γ) (kR : Bool → Option γ) (v0 : List (Int × Int × Int × Int × Unit)) (v1 : Int) (v2 : List (Int)) (v3 : List (Int)) : Option γ :=
  bif (ltI v1 (lenI v0)) then
    bif (inI v0 v1) then
      obind (lp42_9 fuelN v0 v1 (getI v0 (0, (0, (0, (0, ())))) v1).1 (getI v0 (0, (0, (0, (0, ())))) v1).2.1 (getI v0 (0, (0, (0, (0, ())))) v1).2.2.1 (getI v0 (0, (0, (0, (0, ())))) v1).2.2.2.1 v2 v3) fun y0 =>
        osum y0 (fun a1 =>
          bif (eqI (lenI a1.2.2.2.1) 0) then
            kR false
          else
          obind (fn60 (a1.2.1.1, (a1.2.1.2.1, (a1.2.1.2.2.1, (a1.2.1.2.2.2.1, ()))))) fun y2 =>
            bif (!y2.1) then
              kR false
            else
            bif (inI a1.1.1 a1.2.1.2.2.2.1) then
              bif (inI a1.2.2.1 a1.2.1.2.2.2.1) then
                bif (ltL (natI a1.2.1.2.2.2.1) a1.2.2.1) then
                  bif (ltI a1.2.1.2.1 (maxI (getI a1.1.1 (0, (0, (0, (0, ())))) a1.2.1.2.2.2.1).2.1 (nthN a1.2.2.1 0 (natI a1.2.1.2.2.2.1)))) then
                    kR false
                  else
                  bif (inI a1.1.1 a1.2.1.2.2.2.1) then
                    bif (ltI (getI a1.1.1 (0, (0, (0, (0, ())))) a1.2.1.2.2.2.1).2.2.1 a1.2.1.2.2.1) then
                      kR false
                    else
                    bif (inI a1.2.2.1 a1.2.1.2.2.2.1) then
                      bif (ltL (natI a1.2.1.2.2.2.1) a1.2.2.1) then
                        bif (fitI (catL a1.2.2.2.1 [a1.1.2.1]) 8) then
                          rec a1.1.1 (addK .i64 a1.1.2.1 1) (setI a1.2.2.1 (natI a1.2.1.2.2.2.1) a1.2.1.2.2.1) (catL a1.2.2.2.1 [a1.1.2.1])
                        else
                        none
                      else
                      none
                    else
                    none
                  else
                  none
                else
                none
              else
              none
            else
            none) (fun b1 =>
          kR b1.1.1)
    else
    none
  else
  kE 
def lp42_6 : Nat → (List (Int × Int × Int × Int × Unit)) → Int → (List (Int)) → (List (Int)) → Option (pa42_6.den ⊕ pb42_6.den)
  | 0, _, _, _, _ => none
  | n + 1, v0, v1, v2, v3 => st42_6 (lp42_6 n) (some (.inl ((), ()))) (fun r0 => some (.inr ((r0, ()), ()))) v0 v1 v2 v3
noncomputable def ls42_6 : LoopSum := loopBy k42_6 p42_6 pa42_6 pb42_6 (.exit 0) (fun v => lp42_6 fuelN v.1.1 v.1.2.1 v.2.1 v.2.2.1) 12
def fn42 (x0 : List (Int × Int × Int × Int × Unit)) (x1 : Int) : Option (Bool × Unit) :=
  bif (eqI (lenI x0) 0) then
    some (false, ())
  else
  bif (inI x0 0) then
    bif (!(eqI (getI x0 (0, (0, (0, (0, ())))) 0).2.2.2.1 (-1))) then
      some (false, ())
    else
    bif (inI x0 0) then
      bif (!(eqI (getI x0 (0, (0, (0, (0, ())))) 0).2.1 0)) then
        some (false, ())
      else
      bif (inI x0 0) then
        bif (!(eqI (getI x0 (0, (0, (0, (0, ())))) 0).2.2.1 x1)) then
          some (false, ())
        else
        bif (inI x0 0) then
          obind (fn60 (getI x0 (0, (0, (0, (0, ())))) 0)) fun y0 =>
            bif (!y0.1) then
              some (false, ())
            else
            bif ((leI 0 (lenI x0)) && ((leI (lenI x0) (lenI x0)) && (roomC (lenI x0) 8))) then
              obind (lp42_6 fuelN x0 1 (repN (natI (lenI x0)) 0) [0]) fun y1 =>
                osum y1 (fun a2 =>
                  some (true, ())) (fun b2 =>
                  some (b2.1.1, ()))
            else
            none
        else
        none
      else
      none
    else
    none
  else
  none
def sum42 : Sum := (⟨[.list (.pair (.int .i64) (.pair (.int .i64) (.pair (.int .i64) (.pair (.int .i64) .unit)))), .int .i64], [(.bool, false)], fun x => fn42 x.1 x.2.1⟩ : Sum)
noncomputable def env42 : Env := envOf Try.prog tt 42 [(60, sum60)] [(9, k42_9), (6, k42_6)] [(9, ls42_9), (6, ls42_6)]
theorem step42_9 {R : Type} (d : Nat) (n : Nat) (K : Ex → St → Option R) (v0 : List (Int × Int × Int × Int × Unit)) (v1 : Int) (v2 : Int) (v3 : Int) (v4 : Int) (v5 : Int) (v6 : List (Int)) (v7 : List (Int)) :
    iter (some k42_9) (runD env42 (d + 6) 42 c42_9) (n + 1) (mkSt p42_9 ((v0, v1, ()), ((v2, v3, v4, v5, ()), v6, v7, ()))) K =
      st42_9 (fun v0 v1 v2 v3 v4 v5 v6 v7 => iter (some k42_9) (runD env42 (d + 6) 42 c42_9) n (mkSt p42_9 ((v0, v1, ()), ((v2, v3, v4, v5, ()), v6, v7, ()))) K) (fun e0 e1 e2 e3 e4 e5 e6 e7 => K (.exit 2) (mkSt pa42_9 ((e0, e1, ()), ((e2, e3, e4, e5, ()), e6, e7, ())))) (fun r0 => K .ret (mkSt pb42_9 ((r0, ()), ()))) v0 v1 v2 v3 v4 v5 v6 v7 := by kernel_rfl
theorem it42_9 {R : Type} (d : Nat) (K : Ex → St → Option R) : ∀ (n : Nat) (v0 : List (Int × Int × Int × Int × Unit)) (v1 : Int) (v2 : Int) (v3 : Int) (v4 : Int) (v5 : Int) (v6 : List (Int)) (v7 : List (Int)),
    iter (some k42_9) (runD env42 (d + 6) 42 c42_9) n (mkSt p42_9 ((v0, v1, ()), ((v2, v3, v4, v5, ()), v6, v7, ()))) K = obind (lp42_9 n v0 v1 v2 v3 v4 v5 v6 v7) fun o => osum o (fun a => K (.exit 2) (mkSt pa42_9 a)) fun b => K .ret (mkSt pb42_9 b)
  | 0, _, _, _, _, _, _, _, _ => rfl
  | n + 1, v0, v1, v2, v3, v4, v5, v6, v7 => by
    rw [step42_9]
    simp only [it42_9 d K n, lp42_9, st42_9, obind_cond, obind_none, obind_some, obind_obind, obind_osum]
    try simp only [osum]
theorem ok42_9 : LoopOk env42 42 c42_9 ls42_9 := loopBy_ok (by kernel_rfl) fun R d K v o h => ⟨fuelN, (it42_9 d K fuelN (v.1.1) (v.1.2.1) (v.2.1.1) (v.2.1.2.1) (v.2.1.2.2.1) (v.2.1.2.2.2.1) (v.2.2.1) (v.2.2.2.1)).trans (congrArg (fun o => obind o _) h)⟩
theorem step42_6 {R : Type} (d : Nat) (n : Nat) (K : Ex → St → Option R) (v0 : List (Int × Int × Int × Int × Unit)) (v1 : Int) (v2 : List (Int)) (v3 : List (Int)) :
    iter (some k42_6) (runD env42 (d + 12) 42 c42_6) (n + 1) (mkSt p42_6 ((v0, v1, ()), (v2, v3, ()))) K =
      st42_6 (fun v0 v1 v2 v3 => iter (some k42_6) (runD env42 (d + 12) 42 c42_6) n (mkSt p42_6 ((v0, v1, ()), (v2, v3, ()))) K) (K (.exit 0) (mkSt pa42_6 ((), ()))) (fun r0 => K .ret (mkSt pb42_6 ((r0, ()), ()))) v0 v1 v2 v3 := by kernel_rfl
theorem it42_6 {R : Type} (d : Nat) (K : Ex → St → Option R) : ∀ (n : Nat) (v0 : List (Int × Int × Int × Int × Unit)) (v1 : Int) (v2 : List (Int)) (v3 : List (Int)),
    iter (some k42_6) (runD env42 (d + 12) 42 c42_6) n (mkSt p42_6 ((v0, v1, ()), (v2, v3, ()))) K = obind (lp42_6 n v0 v1 v2 v3) fun o => osum o (fun a => K (.exit 0) (mkSt pa42_6 a)) fun b => K .ret (mkSt pb42_6 b)
  | 0, _, _, _, _ => rfl
  | n + 1, v0, v1, v2, v3 => by
    rw [step42_6]
    simp only [it42_6 d K n, lp42_6, st42_6, obind_cond, obind_none, obind_some, obind_obind, obind_osum]
    try simp only [osum]
theorem ok42_6 : LoopOk env42 42 c42_6 ls42_6 := loopBy_ok (by kernel_rfl) fun R d K v o h => ⟨fuelN, (it42_6 d K fuelN (v.1.1) (v.1.2.1) (v.2.1) (v.2.2.1)).trans (congrArg (fun o => obind o _) h)⟩
theorem run42 (x0 : List (Int × Int × Int × Int × Unit)) (x1 : Int) : runF env42 42 [.list (.pair (.int .i64) (.pair (.int .i64) (.pair (.int .i64) (.pair (.int .i64) .unit)))), .int .i64] [(.bool, false)] (x0, x1, ()) = fn42 x0 x1 := by kernel_rfl
theorem lat42 : loopsAt b42 = [c42_9, c42_6] := by kernel_rfl
theorem lok42 : loopsOk env42 42 b42 := loopsOk_at b42 (fun _ => rfl) (by rw [lat42]; exact (List.forall_mem_cons.2 ⟨(fun L h => by rw [show env42.lp 42 (firstRegion c42_9) = some ls42_9 by kernel_rfl] at h; cases h; exact ok42_9), (List.forall_mem_cons.2 ⟨(fun L h => by rw [show env42.lp 42 (firstRegion c42_6) = some ls42_6 by kernel_rfl] at h; cases h; exact ok42_6), (fun _ h => absurd h List.not_mem_nil)⟩)⟩))
theorem env42_ok : EnvOk env42 := envOf_ok tok mixed noGor (sg := [(60, sum60)]) (List.forall_mem_cons.2 ⟨(sum60_ok), (fun _ h => absurd h List.not_mem_nil)⟩) (fn := Try.f42) (c := b42) (by kernel_rfl) (by kernel_rfl) lok42 rf_ok chk_ok
theorem sum42_ok : SumOk Try.prog 42 sum42 := sum_of_run env42_ok (by decide) fun x y h => (run42 (x.1) (x.2.1)).trans h

/-! ### quillwort/rules.over -/
def fn29 (x0 : List (Int × (List UInt8) × (Int × Int × Unit))) (x1 : List (Int × Int × Int × Int × Unit)) (x2 : Int) : Option (Bool × Unit) :=
  bif (leI 0 x2) then
    bif (ltI x2 (lenI x1)) then
      obind (fn42 x1 (lenI x0)) fun y0 =>
        some (y0.1, ())
    else
    some (false, ())
  else
  some (false, ())
def sum29 : Sum := (⟨[.list (.pair (.int .i64) (.pair .str (.pair (.int .i64) (.pair (.int .i64) .unit)))), .list (.pair (.int .i64) (.pair (.int .i64) (.pair (.int .i64) (.pair (.int .i64) .unit)))), .int .i64], [(.bool, false)], fun x => fn29 x.1 x.2.1 x.2.2.1⟩ : Sum)
noncomputable def env29 : Env := envOf Try.prog tt 29 [(42, sum42)] [] []
theorem run29 (x0 : List (Int × (List UInt8) × (Int × Int × Unit))) (x1 : List (Int × Int × Int × Int × Unit)) (x2 : Int) : runF env29 29 [.list (.pair (.int .i64) (.pair .str (.pair (.int .i64) (.pair (.int .i64) .unit)))), .list (.pair (.int .i64) (.pair (.int .i64) (.pair (.int .i64) (.pair (.int .i64) .unit)))), .int .i64] [(.bool, false)] (x0, x1, x2, ()) = fn29 x0 x1 x2 := by kernel_rfl
theorem env29_ok : EnvOk env29 := envOf_ok tok mixed noGor (sg := [(42, sum42)]) (List.forall_mem_cons.2 ⟨(sum42_ok), (fun _ h => absurd h List.not_mem_nil)⟩) (fn := Try.f29) (c := (Try.f29.body).getD .skip) (by kernel_rfl) (by kernel_rfl) (loopsOk_none (fun _ => rfl) (fun _ => rfl) _) rf_ok chk_ok
theorem sum29_ok : SumOk Try.prog 29 sum29 := sum_of_run env29_ok (by decide) fun x y h => (run29 (x.1) (x.2.1) (x.2.2.1)).trans h

/-! ### quillwort/tree.is -/
def fn56 (x0 : List (Int × Int × Int × Int × Unit)) (x1 : Int) : Option (Bool × Unit) :=
  bif (leI 0 x1) then
    some ((ltI x1 (lenI x0)), ())
  else
  some (false, ())
def sum56 : Sum := (⟨[.list (.pair (.int .i64) (.pair (.int .i64) (.pair (.int .i64) (.pair (.int .i64) .unit)))), .int .i64], [(.bool, false)], fun x => fn56 x.1 x.2.1⟩ : Sum)
noncomputable def env56 : Env := envOf Try.prog tt 56 [] [] []
theorem run56 (x0 : List (Int × Int × Int × Int × Unit)) (x1 : Int) : runF env56 56 [.list (.pair (.int .i64) (.pair (.int .i64) (.pair (.int .i64) (.pair (.int .i64) .unit)))), .int .i64] [(.bool, false)] (x0, x1, ()) = fn56 x0 x1 := by kernel_rfl
theorem env56_ok : EnvOk env56 := envOf_ok tok mixed noGor (sg := []) (fun _ h => absurd h List.not_mem_nil) (fn := Try.f56) (c := (Try.f56.body).getD .skip) (by kernel_rfl) (by kernel_rfl) (loopsOk_none (fun _ => rfl) (fun _ => rfl) _) rf_ok chk_ok
theorem sum56_ok : SumOk Try.prog 56 sum56 := sum_of_run env56_ok (by decide) fun x y h => (run56 (x.1) (x.2.1)).trans h

/-! ### quillwort/tree.Kids -/
noncomputable def b51 : Code := (Try.f51.body).getD .skip
noncomputable def c51_4 : Code := cA (cA (cB (cA (cB (cB (b51))))))
def k51_4 : Keep := ⟨[1, 4, 11, 12, 13, 100004], [(4, (.int .i64))], [4], [], [4], [(4, (.int .i64))]⟩
def p51_4 : SP := ⟨us [.u, .v (.int .i64), .u, .u, .slc 1800004, .u, .u, .u, .u, .u, .u, .v (.list (.pair (.int .i64) (.pair (.int .i64) (.pair (.int .i64) (.pair (.int .i64) .unit))))), .v (.int .i64), .v (.int .i64)] 14, [.arr 1800004 (.int .i64)]⟩
def pa51_4 : SP := ⟨us [.u, .u, .u, .u, .slc 1800004] 23, [.arr 1800004 (.int .i64)]⟩
def pb51_4 : SP := ⟨us [.u, .u, .u, .u, .v (.list (.int .i64))] 23, []⟩
def st51_4 {γ : Type} (rec : Int → (List (Int × Int × Int × Int × Unit)) → Int → Int → (List (Int)) → Option γ) (kE : (List (Int)) → Option γ) (kR : (List (Int)) → Option γ) (v0 : Int) (v1 : List (Int × Int × Int × Int × Unit)) (v2 : Int) (v3 : Int) (v4 : List (Int)) : Option γ :=
  bif (ltI v3 v2) then
    bif (inI v1 v3) then
      bif (eqI (getI v1 (0, (0, (0, (0, ())))) v3).2.2.2.1 v0) then
        bif (fitI (catL v4 [v3]) 8) then
          rec v0 v1 v2 (addK .i64 v3 1) (catL v4 [v3])
        else
        none
      else
      rec v0 v1 v2 (addK .i64 v3 1) v4
    else
    none
  else
  kE v4
def lp51_4 : Nat → Int → (List (Int × Int × Int × Int × Unit)) → Int → Int → (List (Int)) → Option (pa51_4.den ⊕ pb51_4.den)
  | 0, _, _, _, _, _ => none
  | n + 1, v0, v1, v2, v3, v4 => st51_4 (lp51_4 n) (fun e0 => some (.inl ((), (e0, ())))) (fun r0 => some (.inr ((r0, ()), ()))) v0 v1 v2 v3 v4
noncomputable def ls51_4 : LoopSum := loopBy k51_4 p51_4 pa51_4 pb51_4 (.exit 0) (fun v => lp51_4 fuelN v.1.1 v.1.2.1 v.1.2.2.1 v.1.2.2.2.1 v.2.1) 6
def fn51 (x0 : List (Int × Int × Int × Int × Unit)) (x1 : Int) : Option ((List (Int)) × Unit) :=
  obind (fn56 x0 x1) fun y0 =>
    bif (!y0.1) then
      some ([], ())
    else
    obind (lp51_4 fuelN x1 x0 (lenI x0) 0 []) fun y1 =>
      osum y1 (fun a2 =>
        some (a2.2.1, ())) (fun b2 =>
        some (b2.1.1, ()))
def sum51 : Sum := (⟨[.list (.pair (.int .i64) (.pair (.int .i64) (.pair (.int .i64) (.pair (.int .i64) .unit)))), .int .i64], [(.list (.int .i64), false)], fun x => fn51 x.1 x.2.1⟩ : Sum)
noncomputable def env51 : Env := envOf Try.prog tt 51 [(56, sum56)] [(4, k51_4)] [(4, ls51_4)]
theorem step51_4 {R : Type} (d : Nat) (n : Nat) (K : Ex → St → Option R) (v0 : Int) (v1 : List (Int × Int × Int × Int × Unit)) (v2 : Int) (v3 : Int) (v4 : List (Int)) :
    iter (some k51_4) (runD env51 (d + 6) 51 c51_4) (n + 1) (mkSt p51_4 ((v0, v1, v2, v3, ()), (v4, ()))) K =
      st51_4 (fun v0 v1 v2 v3 v4 => iter (some k51_4) (runD env51 (d + 6) 51 c51_4) n (mkSt p51_4 ((v0, v1, v2, v3, ()), (v4, ()))) K) (fun e0 => K (.exit 0) (mkSt pa51_4 ((), (e0, ())))) (fun r0 => K .ret (mkSt pb51_4 ((r0, ()), ()))) v0 v1 v2 v3 v4 := by kernel_rfl
theorem it51_4 {R : Type} (d : Nat) (K : Ex → St → Option R) : ∀ (n : Nat) (v0 : Int) (v1 : List (Int × Int × Int × Int × Unit)) (v2 : Int) (v3 : Int) (v4 : List (Int)),
    iter (some k51_4) (runD env51 (d + 6) 51 c51_4) n (mkSt p51_4 ((v0, v1, v2, v3, ()), (v4, ()))) K = obind (lp51_4 n v0 v1 v2 v3 v4) fun o => osum o (fun a => K (.exit 0) (mkSt pa51_4 a)) fun b => K .ret (mkSt pb51_4 b)
  | 0, _, _, _, _, _ => rfl
  | n + 1, v0, v1, v2, v3, v4 => by
    rw [step51_4]
    simp only [it51_4 d K n, lp51_4, st51_4, obind_cond, obind_none, obind_some, obind_obind, obind_osum]
    try simp only [osum]
theorem ok51_4 : LoopOk env51 51 c51_4 ls51_4 := loopBy_ok (by kernel_rfl) fun R d K v o h => ⟨fuelN, (it51_4 d K fuelN (v.1.1) (v.1.2.1) (v.1.2.2.1) (v.1.2.2.2.1) (v.2.1)).trans (congrArg (fun o => obind o _) h)⟩
theorem run51 (x0 : List (Int × Int × Int × Int × Unit)) (x1 : Int) : runF env51 51 [.list (.pair (.int .i64) (.pair (.int .i64) (.pair (.int .i64) (.pair (.int .i64) .unit)))), .int .i64] [(.list (.int .i64), false)] (x0, x1, ()) = fn51 x0 x1 := by kernel_rfl
theorem lat51 : loopsAt b51 = [c51_4] := by kernel_rfl
theorem lok51 : loopsOk env51 51 b51 := loopsOk_at b51 (fun _ => rfl) (by rw [lat51]; exact (List.forall_mem_cons.2 ⟨(fun L h => by rw [show env51.lp 51 (firstRegion c51_4) = some ls51_4 by kernel_rfl] at h; cases h; exact ok51_4), (fun _ h => absurd h List.not_mem_nil)⟩))
theorem env51_ok : EnvOk env51 := envOf_ok tok mixed noGor (sg := [(56, sum56)]) (List.forall_mem_cons.2 ⟨(sum56_ok), (fun _ h => absurd h List.not_mem_nil)⟩) (fn := Try.f51) (c := b51) (by kernel_rfl) (by kernel_rfl) lok51 rf_ok chk_ok
theorem sum51_ok : SumOk Try.prog 51 sum51 := sum_of_run env51_ok (by decide) fun x y h => (run51 (x.1) (x.2.1)).trans h

/-! ### quillwort/class.Of -/
noncomputable def b94 : Code := (Try.f94.body).getD .skip
noncomputable def c94_800011 : Code := cB (cB (cB (cB (cB (cB (cB (cA (cA (cB (b94))))))))))
noncomputable def c94_800012 : Code := cB (cB (b94))
noncomputable def c94_800020 : Code := cB (cA (cB (cA (cB (cB (b94))))))
noncomputable def c94_800026 : Code := cB (cB (cB (cA (cB (cA (cB (cB (b94))))))))
def k94_800011 : Keep := ⟨[0, 18, 900011], [], [0], [], [2], []⟩
def k94_800012 : Keep := ⟨[0, 900012], [], [2], [], [2], []⟩
def k94_800020 : Keep := ⟨[33, 34, 900020], [], [], [], [2], []⟩
def k94_800026 : Keep := ⟨[42, 900026], [], [], [], [2], []⟩
def p94_800011 : SP := ⟨us [.v (.int .u8), .u, .u, .u, .u, .u, .u, .u, .u, .u, .u, .u, .u, .u, .u, .u, .u, .u, .v .bool] 29, []⟩
def pa94_800011 : SP := ⟨us [.v (.int .u8)] 47, []⟩
def pb94_800011 : SP := ⟨us [.u, .u, .v (.int .i64)] 45, []⟩
def st94_800011 {γ : Type} (kE : Int → Option γ) (kR : Int → Option γ) (v0 : Int) (v1 : Bool) : Option γ :=
  bif v1 then
    kR 5
  else
  kE v0
def lp94_800011 (v0 : Int) (v1 : Bool) : Option (pa94_800011.den ⊕ pb94_800011.den) := st94_800011 (fun e0 => some (.inl ((e0, ()), ()))) (fun r0 => some (.inr ((r0, ()), ()))) v0 v1
noncomputable def ls94_800011 : LoopSum := loopBy k94_800011 p94_800011 pa94_800011 pb94_800011 (.exit 999999) (fun v => lp94_800011 v.1.1 v.1.2.1) 6
def p94_800026 : SP := ⟨[.u, .u, .u, .u, .u, .u, .u, .u, .u, .u, .u, .u, .u, .u, .u, .u, .u, .u, .u, .u, .u, .u, .u, .u, .u, .u, .u, .u, .u, .u, .u, .u, .u, .u, .u, .u, .u, .u, .u, .u, .u, .u, .v .bool, .u, .u, .u, .u, .u], []⟩
def pa94_800026 : SP := ⟨us [] 48, []⟩
def pb94_800026 : SP := ⟨us [.u, .u, .v (.int .i64)] 45, []⟩
def st94_800026 {γ : Type} (kE : Option γ) (kR : Int → Option γ) (v0 : Bool) : Option γ :=
  bif v0 then
    kR 4
  else
  kE 
def lp94_800026 (v0 : Bool) : Option (pa94_800026.den ⊕ pb94_800026.den) := st94_800026 (some (.inl ((), ()))) (fun r0 => some (.inr ((r0, ()), ()))) v0
noncomputable def ls94_800026 : LoopSum := loopBy k94_800026 p94_800026 pa94_800026 pb94_800026 (.exit 999999) (fun v => lp94_800026 v.1.1) 12
def p94_800020 : SP := ⟨us [.u, .u, .u, .u, .u, .u, .u, .u, .u, .u, .u, .u, .u, .u, .u, .u, .u, .u, .u, .u, .u, .u, .u, .u, .u, .u, .u, .u, .u, .u, .u, .u, .u, .v (.int .u8), .v .bool] 13, []⟩
def pa94_800020 : SP := ⟨us [] 48, []⟩
def pb94_800020 : SP := ⟨us [.u, .u, .v (.int .i64)] 45, []⟩
def st94_800020 {γ : Type} (kE : Option γ) (kR : Int → Option γ) (v0 : Int) (v1 : Bool) : Option γ :=
  bif v1 then
    kR 3
  else
  bif (eqI v0 92) then
    obind (lp94_800026 (eqI v0 92)) fun y0 =>
      osum y0 (fun a1 =>
        kE ) (fun b1 =>
        kR b1.1.1)
  else
  bif (eqI v0 39) then
    obind (lp94_800026 (eqI v0 39)) fun y0 =>
      osum y0 (fun a1 =>
        kE ) (fun b1 =>
        kR b1.1.1)
  else
  bif (eqI v0 34) then
    obind (lp94_800026 (eqI v0 34)) fun y0 =>
      osum y0 (fun a1 =>
        kE ) (fun b1 =>
        kR b1.1.1)
  else
  bif (eqI v0 96) then
    obind (lp94_800026 (eqI v0 96)) fun y0 =>
      osum y0 (fun a1 =>
        kE ) (fun b1 =>
        kR b1.1.1)
  else
  obind (lp94_800026 (eqI v0 36)) fun y0 =>
    osum y0 (fun a1 =>
      kE ) (fun b1 =>
      kR b1.1.1)
def lp94_800020 (v0 : Int) (v1 : Bool) : Option (pa94_800020.den ⊕ pb94_800020.den) := st94_800020 (some (.inl ((), ()))) (fun r0 => some (.inr ((r0, ()), ()))) v0 v1
noncomputable def ls94_800020 : LoopSum := loopBy k94_800020 p94_800020 pa94_800020 pb94_800020 (.exit 999999) (fun v => lp94_800020 v.1.1 v.1.2.1) 18
def p94_800012 : SP := ⟨us [.v (.int .u8)] 47, []⟩
def pa94_800012 : SP := ⟨[], []⟩
def pb94_800012 : SP := ⟨us [.u, .u, .v (.int .i64)] 45, []⟩
def st94_800012 {γ : Type} (kE : Option γ) (kR : Int → Option γ) (v0 : Int) : Option γ :=
  bif (eqI v0 124) then
    obind (lp94_800020 v0 (eqI v0 124)) fun y0 =>
      osum y0 (fun a1 =>
        kR 0) (fun b1 =>
        kR b1.1.1)
  else
  bif (eqI v0 38) then
    obind (lp94_800020 v0 (eqI v0 38)) fun y0 =>
      osum y0 (fun a1 =>
        kR 0) (fun b1 =>
        kR b1.1.1)
  else
  bif (eqI v0 59) then
    obind (lp94_800020 v0 (eqI v0 59)) fun y0 =>
      osum y0 (fun a1 =>
        kR 0) (fun b1 =>
        kR b1.1.1)
  else
  bif (eqI v0 60) then
    obind (lp94_800020 v0 (eqI v0 60)) fun y0 =>
      osum y0 (fun a1 =>
        kR 0) (fun b1 =>
        kR b1.1.1)
  else
  bif (eqI v0 62) then
    obind (lp94_800020 v0 (eqI v0 62)) fun y0 =>
      osum y0 (fun a1 =>
        kR 0) (fun b1 =>
        kR b1.1.1)
  else
  bif (eqI v0 40) then
    obind (lp94_800020 v0 (eqI v0 40)) fun y0 =>
      osum y0 (fun a1 =>
        kR 0) (fun b1 =>
        kR b1.1.1)
  else
  obind (lp94_800020 v0 (eqI v0 41)) fun y0 =>
    osum y0 (fun a1 =>
      kR 0) (fun b1 =>
      kR b1.1.1)
def lp94_800012 (v0 : Int) : Option (pa94_800012.den ⊕ pb94_800012.den) := st94_800012 (some (.inl ((), ()))) (fun r0 => some (.inr ((r0, ()), ()))) v0
noncomputable def ls94_800012 : LoopSum := loopBy k94_800012 p94_800012 pa94_800012 pb94_800012 (.exit 0) (fun v => lp94_800012 v.1.1) 24
def fn94 (x0 : Int) : Option (Int × Unit) :=
  bif (eqI x0 32) then
    bif (eqI x0 32) then
      some (1, ())
    else
    bif (eqI x0 10) then
      some (2, ())
    else
    bif (leI 48 x0) then
      bif (leI x0 57) then
        some (6, ())
      else
      bif (leI 97 x0) then
        bif (leI x0 122) then
          obind (lp94_800011 x0 (leI x0 122)) fun y0 =>
            osum y0 (fun a1 =>
              obind (lp94_800012 a1.1.1) fun y2 =>
                osum y2 (fun a3 =>
                  none) (fun b3 =>
                  some (b3.1.1, ()))) (fun b1 =>
              some (b1.1.1, ()))
        else
        bif (leI 65 x0) then
          bif (leI x0 90) then
            obind (lp94_800011 x0 (leI x0 90)) fun y0 =>
              osum y0 (fun a1 =>
                obind (lp94_800012 a1.1.1) fun y2 =>
                  osum y2 (fun a3 =>
                    none) (fun b3 =>
                    some (b3.1.1, ()))) (fun b1 =>
                some (b1.1.1, ()))
          else
          obind (lp94_800011 x0 (eqI x0 95)) fun y0 =>
            osum y0 (fun a1 =>
              obind (lp94_800012 a1.1.1) fun y2 =>
                osum y2 (fun a3 =>
                  none) (fun b3 =>
                  some (b3.1.1, ()))) (fun b1 =>
              some (b1.1.1, ()))
        else
        obind (lp94_800011 x0 (eqI x0 95)) fun y0 =>
          osum y0 (fun a1 =>
            obind (lp94_800012 a1.1.1) fun y2 =>
              osum y2 (fun a3 =>
                none) (fun b3 =>
                some (b3.1.1, ()))) (fun b1 =>
            some (b1.1.1, ()))
      else
      bif (leI 65 x0) then
        bif (leI x0 90) then
          obind (lp94_800011 x0 (leI x0 90)) fun y0 =>
            osum y0 (fun a1 =>
              obind (lp94_800012 a1.1.1) fun y2 =>
                osum y2 (fun a3 =>
                  none) (fun b3 =>
                  some (b3.1.1, ()))) (fun b1 =>
              some (b1.1.1, ()))
        else
        obind (lp94_800011 x0 (eqI x0 95)) fun y0 =>
          osum y0 (fun a1 =>
            obind (lp94_800012 a1.1.1) fun y2 =>
              osum y2 (fun a3 =>
                none) (fun b3 =>
                some (b3.1.1, ()))) (fun b1 =>
            some (b1.1.1, ()))
      else
      obind (lp94_800011 x0 (eqI x0 95)) fun y0 =>
        osum y0 (fun a1 =>
          obind (lp94_800012 a1.1.1) fun y2 =>
            osum y2 (fun a3 =>
              none) (fun b3 =>
              some (b3.1.1, ()))) (fun b1 =>
          some (b1.1.1, ()))
    else
    bif (leI 97 x0) then
      bif (leI x0 122) then
        obind (lp94_800011 x0 (leI x0 122)) fun y0 =>
          osum y0 (fun a1 =>
            obind (lp94_800012 a1.1.1) fun y2 =>
              osum y2 (fun a3 =>
                none) (fun b3 =>
                some (b3.1.1, ()))) (fun b1 =>
            some (b1.1.1, ()))
      else
      bif (leI 65 x0) then
        bif (leI x0 90) then
          obind (lp94_800011 x0 (leI x0 90)) fun y0 =>
            osum y0 (fun a1 =>
              obind (lp94_800012 a1.1.1) fun y2 =>
                osum y2 (fun a3 =>
                  none) (fun b3 =>
                  some (b3.1.1, ()))) (fun b1 =>
              some (b1.1.1, ()))
        else
        obind (lp94_800011 x0 (eqI x0 95)) fun y0 =>
          osum y0 (fun a1 =>
            obind (lp94_800012 a1.1.1) fun y2 =>
              osum y2 (fun a3 =>
                none) (fun b3 =>
                some (b3.1.1, ()))) (fun b1 =>
            some (b1.1.1, ()))
      else
      obind (lp94_800011 x0 (eqI x0 95)) fun y0 =>
        osum y0 (fun a1 =>
          obind (lp94_800012 a1.1.1) fun y2 =>
            osum y2 (fun a3 =>
              none) (fun b3 =>
              some (b3.1.1, ()))) (fun b1 =>
          some (b1.1.1, ()))
    else
    bif (leI 65 x0) then
      bif (leI x0 90) then
        obind (lp94_800011 x0 (leI x0 90)) fun y0 =>
          osum y0 (fun a1 =>
            obind (lp94_800012 a1.1.1) fun y2 =>
              osum y2 (fun a3 =>
                none) (fun b3 =>
                some (b3.1.1, ()))) (fun b1 =>
            some (b1.1.1, ()))
      else
      obind (lp94_800011 x0 (eqI x0 95)) fun y0 =>
        osum y0 (fun a1 =>
          obind (lp94_800012 a1.1.1) fun y2 =>
            osum y2 (fun a3 =>
              none) (fun b3 =>
              some (b3.1.1, ()))) (fun b1 =>
          some (b1.1.1, ()))
    else
    obind (lp94_800011 x0 (eqI x0 95)) fun y0 =>
      osum y0 (fun a1 =>
        obind (lp94_800012 a1.1.1) fun y2 =>
          osum y2 (fun a3 =>
            none) (fun b3 =>
            some (b3.1.1, ()))) (fun b1 =>
        some (b1.1.1, ()))
  else
  bif (eqI x0 9) then
    some (1, ())
  else
  bif (eqI x0 10) then
    some (2, ())
  else
  bif (leI 48 x0) then
    bif (leI x0 57) then
      some (6, ())
    else
    bif (leI 97 x0) then
      bif (leI x0 122) then
        obind (lp94_800011 x0 (leI x0 122)) fun y0 =>
          osum y0 (fun a1 =>
            obind (lp94_800012 a1.1.1) fun y2 =>
              osum y2 (fun a3 =>
                none) (fun b3 =>
                some (b3.1.1, ()))) (fun b1 =>
            some (b1.1.1, ()))
      else
      bif (leI 65 x0) then
        bif (leI x0 90) then
          obind (lp94_800011 x0 (leI x0 90)) fun y0 =>
            osum y0 (fun a1 =>
              obind (lp94_800012 a1.1.1) fun y2 =>
                osum y2 (fun a3 =>
                  none) (fun b3 =>
                  some (b3.1.1, ()))) (fun b1 =>
              some (b1.1.1, ()))
        else
        obind (lp94_800011 x0 (eqI x0 95)) fun y0 =>
          osum y0 (fun a1 =>
            obind (lp94_800012 a1.1.1) fun y2 =>
              osum y2 (fun a3 =>
                none) (fun b3 =>
                some (b3.1.1, ()))) (fun b1 =>
            some (b1.1.1, ()))
      else
      obind (lp94_800011 x0 (eqI x0 95)) fun y0 =>
        osum y0 (fun a1 =>
          obind (lp94_800012 a1.1.1) fun y2 =>
            osum y2 (fun a3 =>
              none) (fun b3 =>
              some (b3.1.1, ()))) (fun b1 =>
          some (b1.1.1, ()))
    else
    bif (leI 65 x0) then
      bif (leI x0 90) then
        obind (lp94_800011 x0 (leI x0 90)) fun y0 =>
          osum y0 (fun a1 =>
            obind (lp94_800012 a1.1.1) fun y2 =>
              osum y2 (fun a3 =>
                none) (fun b3 =>
                some (b3.1.1, ()))) (fun b1 =>
            some (b1.1.1, ()))
      else
      obind (lp94_800011 x0 (eqI x0 95)) fun y0 =>
        osum y0 (fun a1 =>
          obind (lp94_800012 a1.1.1) fun y2 =>
            osum y2 (fun a3 =>
              none) (fun b3 =>
              some (b3.1.1, ()))) (fun b1 =>
          some (b1.1.1, ()))
    else
    obind (lp94_800011 x0 (eqI x0 95)) fun y0 =>
      osum y0 (fun a1 =>
        obind (lp94_800012 a1.1.1) fun y2 =>
          osum y2 (fun a3 =>
            none) (fun b3 =>
            some (b3.1.1, ()))) (fun b1 =>
        some (b1.1.1, ()))
  else
  bif (leI 97 x0) then
    bif (leI x0 122) then
      obind (lp94_800011 x0 (leI x0 122)) fun y0 =>
        osum y0 (fun a1 =>
          obind (lp94_800012 a1.1.1) fun y2 =>
            osum y2 (fun a3 =>
              none) (fun b3 =>
              some (b3.1.1, ()))) (fun b1 =>
          some (b1.1.1, ()))
    else
    bif (leI 65 x0) then
      bif (leI x0 90) then
        obind (lp94_800011 x0 (leI x0 90)) fun y0 =>
          osum y0 (fun a1 =>
            obind (lp94_800012 a1.1.1) fun y2 =>
              osum y2 (fun a3 =>
                none) (fun b3 =>
                some (b3.1.1, ()))) (fun b1 =>
            some (b1.1.1, ()))
      else
      obind (lp94_800011 x0 (eqI x0 95)) fun y0 =>
        osum y0 (fun a1 =>
          obind (lp94_800012 a1.1.1) fun y2 =>
            osum y2 (fun a3 =>
              none) (fun b3 =>
              some (b3.1.1, ()))) (fun b1 =>
          some (b1.1.1, ()))
    else
    obind (lp94_800011 x0 (eqI x0 95)) fun y0 =>
      osum y0 (fun a1 =>
        obind (lp94_800012 a1.1.1) fun y2 =>
          osum y2 (fun a3 =>
            none) (fun b3 =>
            some (b3.1.1, ()))) (fun b1 =>
        some (b1.1.1, ()))
  else
  bif (leI 65 x0) then
    bif (leI x0 90) then
      obind (lp94_800011 x0 (leI x0 90)) fun y0 =>
        osum y0 (fun a1 =>
          obind (lp94_800012 a1.1.1) fun y2 =>
            osum y2 (fun a3 =>
              none) (fun b3 =>
              some (b3.1.1, ()))) (fun b1 =>
          some (b1.1.1, ()))
    else
    obind (lp94_800011 x0 (eqI x0 95)) fun y0 =>
      osum y0 (fun a1 =>
        obind (lp94_800012 a1.1.1) fun y2 =>
          osum y2 (fun a3 =>
            none) (fun b3 =>
            some (b3.1.1, ()))) (fun b1 =>
        some (b1.1.1, ()))
  else
  obind (lp94_800011 x0 (eqI x0 95)) fun y0 =>
    osum y0 (fun a1 =>
      obind (lp94_800012 a1.1.1) fun y2 =>
        osum y2 (fun a3 =>
          none) (fun b3 =>
          some (b3.1.1, ()))) (fun b1 =>
      some (b1.1.1, ()))
def sum94 : Sum := (⟨[.int .u8], [(.int .i64, false)], fun x => fn94 x.1⟩ : Sum)
noncomputable def env94 : Env := envOf Try.prog tt 94 [] [(800011, k94_800011), (800012, k94_800012), (800020, k94_800020), (800026, k94_800026)] [(800011, ls94_800011), (800026, ls94_800026), (800020, ls94_800020), (800012, ls94_800012)]
theorem step94_800011 {R : Type} (d : Nat) (K : Ex → St → Option R) (v0 : Int) (v1 : Bool) :
    iter (some k94_800011) (cutF (runD env94 (d + 6) 94 c94_800011)) 1 (mkSt p94_800011 ((v0, v1, ()), ())) K =
      st94_800011 (fun e0 => K (.exit 999999) (mkSt pa94_800011 ((e0, ()), ()))) (fun r0 => K .ret (mkSt pb94_800011 ((r0, ()), ()))) v0 v1 := by kernel_rfl
theorem it94_800011 {R : Type} (d : Nat) (K : Ex → St → Option R) (v0 : Int) (v1 : Bool) :
    iter (some k94_800011) (cutF (runD env94 (d + 6) 94 c94_800011)) 1 (mkSt p94_800011 ((v0, v1, ()), ())) K = obind (lp94_800011 v0 v1) fun o => osum o (fun a => K (.exit 999999) (mkSt pa94_800011 a)) fun b => K .ret (mkSt pb94_800011 b) := by
    rw [step94_800011]
    simp only [lp94_800011, st94_800011, obind_cond, obind_none, obind_some, obind_obind, obind_osum]
    try simp only [osum]
theorem ok94_800011 : CutOk env94 94 c94_800011 ls94_800011 := cutBy_ok (by kernel_rfl) fun R d K v o h => ⟨1, (it94_800011 d K (v.1.1) (v.1.2.1)).trans (congrArg (fun o => obind o _) h)⟩
theorem step94_800026 {R : Type} (d : Nat) (K : Ex → St → Option R) (v0 : Bool) :
    iter (some k94_800026) (cutF (runD env94 (d + 12) 94 c94_800026)) 1 (mkSt p94_800026 ((v0, ()), ())) K =
      st94_800026 (K (.exit 999999) (mkSt pa94_800026 ((), ()))) (fun r0 => K .ret (mkSt pb94_800026 ((r0, ()), ()))) v0 := by kernel_rfl
theorem it94_800026 {R : Type} (d : Nat) (K : Ex → St → Option R) (v0 : Bool) :
    iter (some k94_800026) (cutF (runD env94 (d + 12) 94 c94_800026)) 1 (mkSt p94_800026 ((v0, ()), ())) K = obind (lp94_800026 v0) fun o => osum o (fun a => K (.exit 999999) (mkSt pa94_800026 a)) fun b => K .ret (mkSt pb94_800026 b) := by
    rw [step94_800026]
    simp only [lp94_800026, st94_800026, obind_cond, obind_none, obind_some, obind_obind, obind_osum]
    try simp only [osum]
theorem ok94_800026 : CutOk env94 94 c94_800026 ls94_800026 := cutBy_ok (by kernel_rfl) fun R d K v o h => ⟨1, (it94_800026 d K (v.1.1)).trans (congrArg (fun o => obind o _) h)⟩
theorem step94_800020 {R : Type} (d : Nat) (K : Ex → St → Option R) (v0 : Int) (v1 : Bool) :
    iter (some k94_800020) (cutF (runD env94 (d + 18) 94 c94_800020)) 1 (mkSt p94_800020 ((v0, v1, ()), ())) K =
      st94_800020 (K (.exit 999999) (mkSt pa94_800020 ((), ()))) (fun r0 => K .ret (mkSt pb94_800020 ((r0, ()), ()))) v0 v1 := by kernel_rfl
theorem it94_800020 {R : Type} (d : Nat) (K : Ex → St → Option R) (v0 : Int) (v1 : Bool) :
    iter (some k94_800020) (cutF (runD env94 (d + 18) 94 c94_800020)) 1 (mkSt p94_800020 ((v0, v1, ()), ())) K = obind (lp94_800020 v0 v1) fun o => osum o (fun a => K (.exit 999999) (mkSt pa94_800020 a)) fun b => K .ret (mkSt pb94_800020 b) := by
    rw [step94_800020]
    simp only [lp94_800020, st94_800020, obind_cond, obind_none, obind_some, obind_obind, obind_osum]
    try simp only [osum]
theorem ok94_800020 : CutOk env94 94 c94_800020 ls94_800020 := cutBy_ok (by kernel_rfl) fun R d K v o h => ⟨1, (it94_800020 d K (v.1.1) (v.1.2.1)).trans (congrArg (fun o => obind o _) h)⟩
theorem step94_800012 {R : Type} (d : Nat) (K : Ex → St → Option R) (v0 : Int) :
    iter (some k94_800012) (cutF (runD env94 (d + 24) 94 c94_800012)) 1 (mkSt p94_800012 ((v0, ()), ())) K =
      st94_800012 (K (.exit 0) (mkSt pa94_800012 ((), ()))) (fun r0 => K .ret (mkSt pb94_800012 ((r0, ()), ()))) v0 := by kernel_rfl
theorem it94_800012 {R : Type} (d : Nat) (K : Ex → St → Option R) (v0 : Int) :
    iter (some k94_800012) (cutF (runD env94 (d + 24) 94 c94_800012)) 1 (mkSt p94_800012 ((v0, ()), ())) K = obind (lp94_800012 v0) fun o => osum o (fun a => K (.exit 0) (mkSt pa94_800012 a)) fun b => K .ret (mkSt pb94_800012 b) := by
    rw [step94_800012]
    simp only [lp94_800012, st94_800012, obind_cond, obind_none, obind_some, obind_obind, obind_osum]
    try simp only [osum]
theorem ok94_800012 : CutOk env94 94 c94_800012 ls94_800012 := cutBy_ok (by kernel_rfl) fun R d K v o h => ⟨1, (it94_800012 d K (v.1.1)).trans (congrArg (fun o => obind o _) h)⟩
theorem run94 (x0 : Int) : runF env94 94 [.int .u8] [(.int .i64, false)] (x0, ()) = fn94 x0 := by kernel_rfl
theorem lat94 : loopsAt b94 = [] := by kernel_rfl
theorem cat94 : knownCuts env94 94 b94 = [c94_800011, c94_800012, c94_800020, c94_800026] := by kernel_rfl
theorem lok94 : loopsOk env94 94 b94 := loopsOk_at3 b94 (fun x _ hx => absurd (show false = true from hx) (by decide)) (by rw [lat94]; exact (fun _ h => absurd h List.not_mem_nil)) (knownCuts_ok (by rw [cat94]; exact (List.forall_mem_cons.2 ⟨(fun L h => by rw [show env94.lp 94 (800000 + firstRegion c94_800011) = some (ls94_800011) by kernel_rfl] at h; cases h; exact ok94_800011), (List.forall_mem_cons.2 ⟨(fun L h => by rw [show env94.lp 94 (800000 + firstRegion c94_800012) = some (ls94_800012) by kernel_rfl] at h; cases h; exact ok94_800012), (List.forall_mem_cons.2 ⟨(fun L h => by rw [show env94.lp 94 (800000 + firstRegion c94_800020) = some (ls94_800020) by kernel_rfl] at h; cases h; exact ok94_800020), (List.forall_mem_cons.2 ⟨(fun L h => by rw [show env94.lp 94 (800000 + firstRegion c94_800026) = some (ls94_800026) by kernel_rfl] at h; cases h; exact ok94_800026), (fun _ h => absurd h List.not_mem_nil)⟩)⟩)⟩)⟩)))
theorem env94_ok : EnvOk env94 := envOf_ok tok mixed noGor (sg := []) (fun _ h => absurd h List.not_mem_nil) (fn := Try.f94) (c := b94) (by kernel_rfl) (by kernel_rfl) lok94 rf_ok chk_ok
theorem sum94_ok : SumOk Try.prog 94 sum94 := sum_of_run env94_ok (by decide) fun x y h => (run94 (x.1)).trans h

/-! ### quillwort/class.letter -/
def fn90 (x0 : Int) : Option (Bool × Unit) :=
  obind (fn94 x0) fun y0 =>
    some ((eqI y0.1 5), ())
def sum90 : Sum := (⟨[.int .u8], [(.bool, false)], fun x => fn90 x.1⟩ : Sum)
noncomputable def env90 : Env := envOf Try.prog tt 90 [(94, sum94)] [] []
theorem run90 (x0 : Int) : runF env90 90 [.int .u8] [(.bool, false)] (x0, ()) = fn90 x0 := by kernel_rfl
theorem env90_ok : EnvOk env90 := envOf_ok tok mixed noGor (sg := [(94, sum94)]) (List.forall_mem_cons.2 ⟨(sum94_ok), (fun _ h => absurd h List.not_mem_nil)⟩) (fn := Try.f90) (c := (Try.f90.body).getD .skip) (by kernel_rfl) (by kernel_rfl) (loopsOk_none (fun _ => rfl) (fun _ => rfl) _) rf_ok chk_ok
theorem sum90_ok : SumOk Try.prog 90 sum90 := sum_of_run env90_ok (by decide) fun x y h => (run90 (x.1)).trans h

/-! ### quillwort/class.digit -/
def fn92 (x0 : Int) : Option (Bool × Unit) :=
  obind (fn94 x0) fun y0 =>
    some ((eqI y0.1 6), ())
def sum92 : Sum := (⟨[.int .u8], [(.bool, false)], fun x => fn92 x.1⟩ : Sum)
noncomputable def env92 : Env := envOf Try.prog tt 92 [(94, sum94)] [] []
theorem run92 (x0 : Int) : runF env92 92 [.int .u8] [(.bool, false)] (x0, ()) = fn92 x0 := by kernel_rfl
theorem env92_ok : EnvOk env92 := envOf_ok tok mixed noGor (sg := [(94, sum94)]) (List.forall_mem_cons.2 ⟨(sum94_ok), (fun _ h => absurd h List.not_mem_nil)⟩) (fn := Try.f92) (c := (Try.f92.body).getD .skip) (by kernel_rfl) (by kernel_rfl) (loopsOk_none (fun _ => rfl) (fun _ => rfl) _) rf_ok chk_ok
theorem sum92_ok : SumOk Try.prog 92 sum92 := sum_of_run env92_ok (by decide) fun x y h => (run92 (x.1)).trans h

/-! ### quillwort/class.Name -/
noncomputable def b78_89 : Code := (Try.f89.body).getD .skip
noncomputable def c78_89_4 : Code := cA (cA (cA (cB (cB (cB (cA (cB (b78_89))))))))
def k78_89_4 : Keep := ⟨[0, 1, 2, 7, 90000004], [], [7], [], [6], []⟩
def p78_89_4 : SQ := ⟨us [.v .str, .v (.int .i64), .fn 91 [], .u, .u, .u, .u, .v (.int .i64)] 25, [[.v .str, .v (.int .i64), .e, .e, .v (.int .i64), .v .str, .v (.int .i64), .v (.int .i64), .v .bool, .v .str, .v (.int .i64), .e], []], []⟩
def pa78_89_4 : SQ := ⟨us [.u, .u, .u, .u, .u, .u, .u, .v (.int .i64)] 25, [[.v .str, .v (.int .i64), .e, .e, .v (.int .i64), .v .str, .v (.int .i64), .v (.int .i64), .v .bool, .v .str, .v (.int .i64), .e], []], []⟩
def pb78_89_4 : SQ := ⟨us [.u, .u, .u, .u, .u, .u, .v (.int .i64)] 26, [[.v .str, .v (.int .i64), .e, .e, .v (.int .i64), .v .str, .v (.int .i64), .v (.int .i64), .v .bool, .v .str, .v (.int .i64), .e], []], []⟩
def st78_89_4 {γ : Type} (rec : (List UInt8) → Int → Int → (List UInt8) → Int → Int → (List UInt8) → Int → Int → Bool → (List UInt8) → Int → Option γ) (kE : Int → (List UInt8) → Int → Int → (List UInt8) → Int → Int → Bool → (List UInt8) → Int → Option γ) (kR : Int → (List UInt8) → Int → Int → (List UInt8) → Int → Int → Bool → (List UInt8) → Int → Option γ) (v0 : List UInt8) (v1 : Int) (v2 : Int) (v3 : List UInt8) (v4 : Int) (v5 : Int) (v6 : List UInt8) (v7 : Int) (v8 : Int) (v9 : Bool) (v10 : List UInt8) (v11 : Int) : Option γ :=
  bif (ltI (addK .i64 v1 v2) (lenI v0)) then
    bif (inI v0 (addK .i64 v1 v2)) then
      obind (fn90 (byteAt v0 (addK .i64 v1 v2))) fun y0 =>
        bif y0.1 then
          rec v0 v1 (addK .i64 v2 1) v3 v4 v5 v6 v7 v8 v9 v10 v11
        else
        obind (fn92 (byteAt v0 (addK .i64 v1 v2))) fun y1 =>
          bif (!y1.1) then
            kE v2 v3 v4 v5 v6 v7 v8 v9 v10 v11
          else
          rec v0 v1 (addK .i64 v2 1) v3 v4 v5 v6 v7 v8 v9 v10 v11
    else
    none
  else
  kE v2 v3 v4 v5 v6 v7 v8 v9 v10 v11
def lp78_89_4 : Nat → (List UInt8) → Int → Int → (List UInt8) → Int → Int → (List UInt8) → Int → Int → Bool → (List UInt8) → Int → Option (pa78_89_4.den ⊕ pb78_89_4.den)
  | 0, _, _, _, _, _, _, _, _, _, _, _, _ => none
  | n + 1, v0, v1, v2, v3, v4, v5, v6, v7, v8, v9, v10, v11 => st78_89_4 (lp78_89_4 n) (fun e0 e1 e2 e3 e4 e5 e6 e7 e8 e9 => some (.inl ((e0, ()), ((e1, e2, e3, e4, e5, e6, e7, e8, e9, ()), (), ()), ()))) (fun r0 r1 r2 r3 r4 r5 r6 r7 r8 r9 => some (.inr ((r0, ()), ((r1, r2, r3, r4, r5, r6, r7, r8, r9, ()), (), ()), ()))) v0 v1 v2 v3 v4 v5 v6 v7 v8 v9 v10 v11
noncomputable def ls78_89_4 : LoopSum := loopBy2 k78_89_4 p78_89_4 pa78_89_4 pb78_89_4 (.exit 0) (fun v => lp78_89_4 fuelN v.1.1 v.1.2.1 v.1.2.2.1 v.2.1.1.1 v.2.1.1.2.1 v.2.1.1.2.2.1 v.2.1.1.2.2.2.1 v.2.1.1.2.2.2.2.1 v.2.1.1.2.2.2.2.2.1 v.2.1.1.2.2.2.2.2.2.1 v.2.1.1.2.2.2.2.2.2.2.1 v.2.1.1.2.2.2.2.2.2.2.2.1) 6
def p78_89_4v1 : SQ := ⟨us [.v .str, .v (.int .i64), .fn 90 [], .u, .u, .u, .u, .v (.int .i64)] 25, [[.v .str, .v (.int .i64), .e, .e, .v (.int .i64), .v .str, .v (.int .i64), .e, .e, .e, .e, .e], []], []⟩
def pa78_89_4v1 : SQ := ⟨us [.u, .u, .u, .u, .u, .u, .u, .v (.int .i64)] 25, [[.v .str, .v (.int .i64), .e, .e, .v (.int .i64), .v .str, .v (.int .i64), .e, .e, .e, .e, .e], []], []⟩
def pb78_89_4v1 : SQ := ⟨us [.u, .u, .u, .u, .u, .u, .v (.int .i64)] 26, [[.v .str, .v (.int .i64), .e, .e, .v (.int .i64), .v .str, .v (.int .i64), .e, .e, .e, .e, .e], []], []⟩
def st78_89_4v1 {γ : Type} (rec : (List UInt8) → Int → Int → (List UInt8) → Int → Int → (List UInt8) → Int → Option γ) (kE : Int → (List UInt8) → Int → Int → (List UInt8) → Int → Option γ) (kR : Int → (List UInt8) → Int → Int → (List UInt8) → Int → Option γ) (v0 : List UInt8) (v1 : Int) (v2 : Int) (v3 : List UInt8) (v4 : Int) (v5 : Int) (v6 : List UInt8) (v7 : Int) : Option γ :=
  bif (ltI (addK .i64 v1 v2) (lenI v0)) then
    bif (inI v0 (addK .i64 v1 v2)) then
      obind (fn90 (byteAt v0 (addK .i64 v1 v2))) fun y0 =>
        bif (!y0.1) then
          kE v2 v3 v4 v5 v6 v7
        else
        rec v0 v1 (addK .i64 v2 1) v3 v4 v5 v6 v7
    else
    none
  else
  kE v2 v3 v4 v5 v6 v7
def lp78_89_4v1 : Nat → (List UInt8) → Int → Int → (List UInt8) → Int → Int → (List UInt8) → Int → Option (pa78_89_4v1.den ⊕ pb78_89_4v1.den)
  | 0, _, _, _, _, _, _, _, _ => none
  | n + 1, v0, v1, v2, v3, v4, v5, v6, v7 => st78_89_4v1 (lp78_89_4v1 n) (fun e0 e1 e2 e3 e4 e5 => some (.inl ((e0, ()), ((e1, e2, e3, e4, e5, ()), (), ()), ()))) (fun r0 r1 r2 r3 r4 r5 => some (.inr ((r0, ()), ((r1, r2, r3, r4, r5, ()), (), ()), ()))) v0 v1 v2 v3 v4 v5 v6 v7
noncomputable def ls78_89_4v1 : LoopSum := loopBy2 k78_89_4 p78_89_4v1 pa78_89_4v1 pb78_89_4v1 (.exit 0) (fun v => lp78_89_4v1 fuelN v.1.1 v.1.2.1 v.1.2.2.1 v.2.1.1.1 v.2.1.1.2.1 v.2.1.1.2.2.1 v.2.1.1.2.2.2.1 v.2.1.1.2.2.2.2.1) 12
def fn78 (x0 : List UInt8) (x1 : Int) : Option (Int × Unit) :=
  bif (ltI x1 0) then
    bif (eqI 0 0) then
      some (0, ())
    else
    bif (ltI x1 0) then
      some (0, ())
    else
    bif (leI (lenI x0) x1) then
      some (0, ())
    else
    obind (lp78_89_4 fuelN x0 x1 0 x0 x1 0 x0 x1 0 (eqI 0 0) x0 x1) fun y0 =>
      osum y0 (fun a1 =>
        some (a1.1.1, ())) (fun b1 =>
        some (b1.1.1, ()))
  else
  bif (leI (lenI x0) x1) then
    bif (eqI 0 0) then
      some (0, ())
    else
    bif (ltI x1 0) then
      some (0, ())
    else
    bif (leI (lenI x0) x1) then
      some (0, ())
    else
    obind (lp78_89_4 fuelN x0 x1 0 x0 x1 0 x0 x1 0 (eqI 0 0) x0 x1) fun y0 =>
      osum y0 (fun a1 =>
        some (a1.1.1, ())) (fun b1 =>
        some (b1.1.1, ()))
  else
  obind (lp78_89_4v1 fuelN x0 x1 0 x0 x1 0 x0 x1) fun y0 =>
    osum y0 (fun a1 =>
      bif (eqI a1.1.1 0) then
        some (0, ())
      else
      bif (ltI a1.2.1.1.2.1 0) then
        some (0, ())
      else
      bif (leI (lenI a1.2.1.1.1) a1.2.1.1.2.1) then
        some (0, ())
      else
      obind (lp78_89_4 fuelN a1.2.1.1.1 a1.2.1.1.2.1 0 a1.2.1.1.1 a1.2.1.1.2.1 a1.2.1.1.2.2.1 a1.2.1.1.2.2.2.1 a1.2.1.1.2.2.2.2.1 a1.1.1 (eqI a1.1.1 0) a1.2.1.1.1 a1.2.1.1.2.1) fun y2 =>
        osum y2 (fun a3 =>
          some (a3.1.1, ())) (fun b3 =>
          some (b3.1.1, ()))) (fun b1 =>
      bif (eqI b1.1.1 0) then
        some (0, ())
      else
      bif (ltI b1.2.1.1.2.1 0) then
        some (0, ())
      else
      bif (leI (lenI b1.2.1.1.1) b1.2.1.1.2.1) then
        some (0, ())
      else
      obind (lp78_89_4 fuelN b1.2.1.1.1 b1.2.1.1.2.1 0 b1.2.1.1.1 b1.2.1.1.2.1 b1.2.1.1.2.2.1 b1.2.1.1.2.2.2.1 b1.2.1.1.2.2.2.2.1 b1.1.1 (eqI b1.1.1 0) b1.2.1.1.1 b1.2.1.1.2.1) fun y2 =>
        osum y2 (fun a3 =>
          some (a3.1.1, ())) (fun b3 =>
          some (b3.1.1, ())))
def sum78 : Sum := (⟨[.str, .int .i64], [(.int .i64, false)], fun x => fn78 x.1 x.2.1⟩ : Sum)
noncomputable def env78 : Env := envOf2 Try.prog tt [(90, sum90), (92, sum92)] [(89, 4, k78_89_4)] [(89, 4, loopOr ls78_89_4 ls78_89_4v1)] []
theorem step78_89_4 {R : Type} (d : Nat) (n : Nat) (K : Ex → St → Option R) (v0 : List UInt8) (v1 : Int) (v2 : Int) (v3 : List UInt8) (v4 : Int) (v5 : Int) (v6 : List UInt8) (v7 : Int) (v8 : Int) (v9 : Bool) (v10 : List UInt8) (v11 : Int) :
    iter (some k78_89_4) (runD env78 (d + 6) 89 c78_89_4) (n + 1) (mkSt2 p78_89_4 ((v0, v1, v2, ()), ((v3, v4, v5, v6, v7, v8, v9, v10, v11, ()), (), ()), ())) K =
      st78_89_4 (fun v0 v1 v2 v3 v4 v5 v6 v7 v8 v9 v10 v11 => iter (some k78_89_4) (runD env78 (d + 6) 89 c78_89_4) n (mkSt2 p78_89_4 ((v0, v1, v2, ()), ((v3, v4, v5, v6, v7, v8, v9, v10, v11, ()), (), ()), ())) K) (fun e0 e1 e2 e3 e4 e5 e6 e7 e8 e9 => K (.exit 0) (mkSt2 pa78_89_4 ((e0, ()), ((e1, e2, e3, e4, e5, e6, e7, e8, e9, ()), (), ()), ()))) (fun r0 r1 r2 r3 r4 r5 r6 r7 r8 r9 => K .ret (mkSt2 pb78_89_4 ((r0, ()), ((r1, r2, r3, r4, r5, r6, r7, r8, r9, ()), (), ()), ()))) v0 v1 v2 v3 v4 v5 v6 v7 v8 v9 v10 v11 := by kernel_rfl
theorem it78_89_4 {R : Type} (d : Nat) (K : Ex → St → Option R) : ∀ (n : Nat) (v0 : List UInt8) (v1 : Int) (v2 : Int) (v3 : List UInt8) (v4 : Int) (v5 : Int) (v6 : List UInt8) (v7 : Int) (v8 : Int) (v9 : Bool) (v10 : List UInt8) (v11 : Int),
    iter (some k78_89_4) (runD env78 (d + 6) 89 c78_89_4) n (mkSt2 p78_89_4 ((v0, v1, v2, ()), ((v3, v4, v5, v6, v7, v8, v9, v10, v11, ()), (), ()), ())) K = obind (lp78_89_4 n v0 v1 v2 v3 v4 v5 v6 v7 v8 v9 v10 v11) fun o => osum o (fun a => K (.exit 0) (mkSt2 pa78_89_4 a)) fun b => K .ret (mkSt2 pb78_89_4 b)
  | 0, _, _, _, _, _, _, _, _, _, _, _, _ => rfl
  | n + 1, v0, v1, v2, v3, v4, v5, v6, v7, v8, v9, v10, v11 => by
    rw [step78_89_4]
    simp only [it78_89_4 d K n, lp78_89_4, st78_89_4, obind_cond, obind_none, obind_some, obind_obind, obind_osum]
    try simp only [osum]
theorem ok78_89_4 : LoopOk env78 89 c78_89_4 ls78_89_4 := loopBy2_ok (by kernel_rfl) fun R d K v o h => ⟨fuelN, (it78_89_4 d K fuelN (v.1.1) (v.1.2.1) (v.1.2.2.1) (v.2.1.1.1) (v.2.1.1.2.1) (v.2.1.1.2.2.1) (v.2.1.1.2.2.2.1) (v.2.1.1.2.2.2.2.1) (v.2.1.1.2.2.2.2.2.1) (v.2.1.1.2.2.2.2.2.2.1) (v.2.1.1.2.2.2.2.2.2.2.1) (v.2.1.1.2.2.2.2.2.2.2.2.1)).trans (congrArg (fun o => obind o _) h)⟩
theorem step78_89_4v1 {R : Type} (d : Nat) (n : Nat) (K : Ex → St → Option R) (v0 : List UInt8) (v1 : Int) (v2 : Int) (v3 : List UInt8) (v4 : Int) (v5 : Int) (v6 : List UInt8) (v7 : Int) :
    iter (some k78_89_4) (runD env78 (d + 12) 89 c78_89_4) (n + 1) (mkSt2 p78_89_4v1 ((v0, v1, v2, ()), ((v3, v4, v5, v6, v7, ()), (), ()), ())) K =
      st78_89_4v1 (fun v0 v1 v2 v3 v4 v5 v6 v7 => iter (some k78_89_4) (runD env78 (d + 12) 89 c78_89_4) n (mkSt2 p78_89_4v1 ((v0, v1, v2, ()), ((v3, v4, v5, v6, v7, ()), (), ()), ())) K) (fun e0 e1 e2 e3 e4 e5 => K (.exit 0) (mkSt2 pa78_89_4v1 ((e0, ()), ((e1, e2, e3, e4, e5, ()), (), ()), ()))) (fun r0 r1 r2 r3 r4 r5 => K .ret (mkSt2 pb78_89_4v1 ((r0, ()), ((r1, r2, r3, r4, r5, ()), (), ()), ()))) v0 v1 v2 v3 v4 v5 v6 v7 := by kernel_rfl
theorem it78_89_4v1 {R : Type} (d : Nat) (K : Ex → St → Option R) : ∀ (n : Nat) (v0 : List UInt8) (v1 : Int) (v2 : Int) (v3 : List UInt8) (v4 : Int) (v5 : Int) (v6 : List UInt8) (v7 : Int),
    iter (some k78_89_4) (runD env78 (d + 12) 89 c78_89_4) n (mkSt2 p78_89_4v1 ((v0, v1, v2, ()), ((v3, v4, v5, v6, v7, ()), (), ()), ())) K = obind (lp78_89_4v1 n v0 v1 v2 v3 v4 v5 v6 v7) fun o => osum o (fun a => K (.exit 0) (mkSt2 pa78_89_4v1 a)) fun b => K .ret (mkSt2 pb78_89_4v1 b)
  | 0, _, _, _, _, _, _, _, _ => rfl
  | n + 1, v0, v1, v2, v3, v4, v5, v6, v7 => by
    rw [step78_89_4v1]
    simp only [it78_89_4v1 d K n, lp78_89_4v1, st78_89_4v1, obind_cond, obind_none, obind_some, obind_obind, obind_osum]
    try simp only [osum]
theorem ok78_89_4v1 : LoopOk env78 89 c78_89_4 ls78_89_4v1 := loopBy2_ok (by kernel_rfl) fun R d K v o h => ⟨fuelN, (it78_89_4v1 d K fuelN (v.1.1) (v.1.2.1) (v.1.2.2.1) (v.2.1.1.1) (v.2.1.1.2.1) (v.2.1.1.2.2.1) (v.2.1.1.2.2.2.1) (v.2.1.1.2.2.2.2.1)).trans (congrArg (fun o => obind o _) h)⟩
theorem run78 (x0 : List UInt8) (x1 : Int) : runF env78 78 [.str, .int .i64] [(.int .i64, false)] (x0, x1, ()) = fn78 x0 x1 := by kernel_rfl
theorem lat78_89 : loopsAt b78_89 = [c78_89_4] := by kernel_rfl
theorem lok78_89 : loopsOk env78 89 b78_89 := loopsOk_at b78_89 (fun _ => rfl) (by rw [lat78_89]; exact (List.forall_mem_cons.2 ⟨(fun L h => by rw [show env78.lp 89 (firstRegion c78_89_4) = some (loopOr ls78_89_4 ls78_89_4v1) by kernel_rfl] at h; cases h; exact loopOr_ok ok78_89_4 ok78_89_4v1), (fun _ h => absurd h List.not_mem_nil)⟩))
theorem env78_ok : EnvOk env78 := envOf2_ok tok mixed noGor (sg := [(90, sum90), (92, sum92)]) (List.forall_mem_cons.2 ⟨(sum90_ok), (List.forall_mem_cons.2 ⟨(sum92_ok), (fun _ h => absurd h List.not_mem_nil)⟩)⟩) [89] (by kernel_rfl) (by kernel_rfl) (List.forall_mem_cons.2 ⟨⟨Try.f89, b78_89, by kernel_rfl, by kernel_rfl, lok78_89⟩, (fun _ h => absurd h List.not_mem_nil)⟩) rf_ok chk_ok
theorem sum78_ok : SumOk Try.prog 78 sum78 := sum_of_run env78_ok (by decide) fun x y h => (run78 (x.1) (x.2.1)).trans h

/-! ### quillwort/class.Assign -/
def fn61 (x0 : List UInt8) : Option ((List UInt8) × (List UInt8) × Bool × Unit) :=
  obind (fn78 x0 0) fun y0 =>
    bif (eqI y0.1 0) then
      some ([], ([], (false, ())))
    else
    bif (eqI y0.1 (lenI x0)) then
      some ([], ([], (false, ())))
    else
    bif (inI x0 y0.1) then
      bif (!(eqI (byteAt x0 y0.1) 61)) then
        some ([], ([], (false, ())))
      else
      bif (partI (lenI x0) 0 y0.1) then
        bif (partI (lenI x0) (addK .i64 y0.1 1) (lenI x0)) then
          some ((sub x0 0 y0.1), ((sub x0 (addK .i64 y0.1 1) (lenI x0)), (true, ())))
        else
        none
      else
      none
    else
    none
def sum61 : Sum := (⟨[.str], [(.str, false), (.str, false), (.bool, false)], fun x => fn61 x.1⟩ : Sum)
noncomputable def env61 : Env := envOf Try.prog tt 61 [(78, sum78)] [] []
theorem run61 (x0 : List UInt8) : runF env61 61 [.str] [(.str, false), (.str, false), (.bool, false)] (x0, ()) = fn61 x0 := by kernel_rfl
theorem env61_ok : EnvOk env61 := envOf_ok tok mixed noGor (sg := [(78, sum78)]) (List.forall_mem_cons.2 ⟨(sum78_ok), (fun _ h => absurd h List.not_mem_nil)⟩) (fn := Try.f61) (c := (Try.f61.body).getD .skip) (by kernel_rfl) (by kernel_rfl) (loopsOk_none (fun _ => rfl) (fun _ => rfl) _) rf_ok chk_ok
theorem sum61_ok : SumOk Try.prog 61 sum61 := sum_of_run env61_ok (by decide) fun x y h => (run61 (x.1)).trans h

/-! ### quillwort/rules.assigns -/
def fn52 (x0 : Int × (List UInt8) × (Int × Int × Unit)) : Option (Bool × Unit) :=
  obind (fn61 x0.2.1) fun y0 =>
    some (y0.2.2.1, ())
def sum52 : Sum := (⟨[.pair (.int .i64) (.pair .str (.pair (.int .i64) (.pair (.int .i64) .unit)))], [(.bool, false)], fun x => fn52 x.1⟩ : Sum)
noncomputable def env52 : Env := envOf Try.prog tt 52 [(61, sum61)] [] []
theorem run52 (x0 : Int × (List UInt8) × (Int × Int × Unit)) : runF env52 52 [.pair (.int .i64) (.pair .str (.pair (.int .i64) (.pair (.int .i64) .unit)))] [(.bool, false)] (x0, ()) = fn52 x0 := by kernel_rfl
theorem env52_ok : EnvOk env52 := envOf_ok tok mixed noGor (sg := [(61, sum61)]) (List.forall_mem_cons.2 ⟨(sum61_ok), (fun _ h => absurd h List.not_mem_nil)⟩) (fn := Try.f52) (c := (Try.f52.body).getD .skip) (by kernel_rfl) (by kernel_rfl) (loopsOk_none (fun _ => rfl) (fun _ => rfl) _) rf_ok chk_ok
theorem sum52_ok : SumOk Try.prog 52 sum52 := sum_of_run env52_ok (by decide) fun x y h => (run52 (x.1)).trans h

/-! ### internal/stringslite.IndexByte -/
def fn58 (x0 : List UInt8) (x1 : Int) : Option (Int × Unit) :=
  some ((ibW x0 x1), ())
def sum58 : Sum := (⟨[.str, .int .u8], [(.int .i64, false)], fun x => fn58 x.1 x.2.1⟩ : Sum)
noncomputable def env58 : Env := envOf Try.prog tt 58 [(76, sumIB)] [] []
theorem run58 (x0 : List UInt8) (x1 : Int) : runF env58 58 [.str, .int .u8] [(.int .i64, false)] (x0, x1, ()) = fn58 x0 x1 := by kernel_rfl
theorem env58_ok : EnvOk env58 := envOf_ok tok mixed noGor (sg := [(76, sumIB)]) (List.forall_mem_cons.2 ⟨(sumIB_ok Try.func76 (by kernel_rfl) (by kernel_rfl) (by kernel_rfl) (by kernel_rfl)), (fun _ h => absurd h List.not_mem_nil)⟩) (fn := Try.f58) (c := (Try.f58.body).getD .skip) (by kernel_rfl) (by kernel_rfl) (loopsOk_none (fun _ => rfl) (fun _ => rfl) _) rf_ok chk_ok
theorem sum58_ok : SumOk Try.prog 58 sum58 := sum_of_run env58_ok (by decide) fun x y h => (run58 (x.1) (x.2.1)).trans h

/-! ### strings.IndexByte -/
def fn39 (x0 : List UInt8) (x1 : Int) : Option (Int × Unit) :=
  obind (fn58 x0 x1) fun y0 =>
    some (y0.1, ())
def sum39 : Sum := (⟨[.str, .int .u8], [(.int .i64, false)], fun x => fn39 x.1 x.2.1⟩ : Sum)
noncomputable def env39 : Env := envOf Try.prog tt 39 [(58, sum58)] [] []
theorem run39 (x0 : List UInt8) (x1 : Int) : runF env39 39 [.str, .int .u8] [(.int .i64, false)] (x0, x1, ()) = fn39 x0 x1 := by kernel_rfl
theorem env39_ok : EnvOk env39 := envOf_ok tok mixed noGor (sg := [(58, sum58)]) (List.forall_mem_cons.2 ⟨(sum58_ok), (fun _ h => absurd h List.not_mem_nil)⟩) (fn := Try.f39) (c := (Try.f39.body).getD .skip) (by kernel_rfl) (by kernel_rfl) (loopsOk_none (fun _ => rfl) (fun _ => rfl) _) rf_ok chk_ok
theorem sum39_ok : SumOk Try.prog 39 sum39 := sum_of_run env39_ok (by decide) fun x y h => (run39 (x.1) (x.2.1)).trans h

/-! ### (*quillwort/rules.reader).next -/
def fn79 (x0 : List UInt8) (x1 : Bool) (x2 : List UInt8) : Option (((List UInt8) × Bool × Unit) × (Bool × Unit)) :=
  bif (!(eqS x0 [])) then
    bif (inI x0 0) then
      obind (fn39 x2 (byteAt x0 0)) fun y0 =>
        some ((x0, (x1, ())), ((leI 0 y0.1), ()))
    else
    none
  else
  some ((x0, (x1, ())), (false, ()))
def sum79 : SumB := (⟨72, [(.str, false), (.bool, false)], [.str], [.bool], fun x y => fn79 x.1 x.2.1 y.1⟩ : SumB)
noncomputable def env79 : Env := envOf2 Try.prog tt [(39, sum39)] [] [] []
theorem run79 (x0 : List UInt8) (x1 : Bool) (x2 : List UInt8) : runB env79 79 72 [(.str, false), (.bool, false)] [.str] [.bool] (x0, x1, ()) (x2, ()) = fn79 x0 x1 x2 := by kernel_rfl
theorem env79_ok : EnvOk env79 := envOf2_ok tok mixed noGor (sg := [(39, sum39)]) (List.forall_mem_cons.2 ⟨(sum39_ok), (fun _ h => absurd h List.not_mem_nil)⟩) [] (by kernel_rfl) (by kernel_rfl) (fun _ h => absurd h List.not_mem_nil) rf_ok chk_ok
theorem sum79_ok : SumBOk Try.prog 79 sum79 := sumB_of_run env79_ok fun x y z h => (run79 (x.1) (x.2.1) (y.1)).trans h

/-! ### (*quillwort/rules.reader).take -/
def fn63 (x0 : List UInt8) (x1 : Bool) (x2 : List UInt8) : Option (((List UInt8) × Bool × Unit) × (Bool × Unit)) :=
  obind (fn79 x0 x1 x2) fun y0 =>
    bif (!y0.2.1) then
      some ((y0.1.1, (y0.1.2.1, ())), (false, ()))
    else
    bif (partI (lenI y0.1.1) 1 (lenI y0.1.1)) then
      some (((sub y0.1.1 1 (lenI y0.1.1)), (y0.1.2.1, ())), (true, ()))
    else
    none
def sum63 : SumB := (⟨72, [(.str, false), (.bool, false)], [.str], [.bool], fun x y => fn63 x.1 x.2.1 y.1⟩ : SumB)
noncomputable def env63 : Env := envOf2 Try.prog tt [] [] [] [] [(79, sum79)]
theorem run63 (x0 : List UInt8) (x1 : Bool) (x2 : List UInt8) : runB env63 63 72 [(.str, false), (.bool, false)] [.str] [.bool] (x0, x1, ()) (x2, ()) = fn63 x0 x1 x2 := by kernel_rfl
theorem env63_ok : EnvOk env63 := envOf2_ok tok mixed noGor (sg := []) (fun _ h => absurd h List.not_mem_nil) [] (by kernel_rfl) (by kernel_rfl) (fun _ h => absurd h List.not_mem_nil) rf_ok chk_ok (hx := (List.forall_mem_cons.2 ⟨sum79_ok, (fun _ h => absurd h List.not_mem_nil)⟩))
theorem sum63_ok : SumBOk Try.prog 63 sum63 := sumB_of_run env63_ok fun x y z h => (run63 (x.1) (x.2.1) (y.1)).trans h

/-! ### (*quillwort/rules.reader).many -/
noncomputable def b62 : Code := (Try.f62.body).getD .skip
noncomputable def c62_0 : Code := cA (cA (b62))
def k62_0 : Keep := ⟨[0, 1, 100000], [], [], [], [], []⟩
def p62_0 : SQ := ⟨[.ptr 0 0, .v .str, .u, .u, .u, .u, .u], [[.ptr 0 0]], [.box 0 72 [.v .str, .v .bool]]⟩
def pa62_0 : SQ := ⟨us [] 7, [[.ptr 0 0]], [.box 0 72 [.v .str, .v .bool]]⟩
def pb62_0 : SQ := ⟨us [] 7, [[.ptr 0 0]], []⟩
def st62_0 {γ : Type} (rec : (List UInt8) → (List UInt8) → Bool → Option γ) (kE : (List UInt8) → Bool → Option γ) (kR : Option γ) (v0 : List UInt8) (v1 : List UInt8) (v2 : Bool) : Option γ :=
  obind (fn63 v1 v2 v0) fun y0 =>
    bif y0.2.1 then
      rec v0 y0.1.1 y0.1.2.1
    else
    kE y0.1.1 y0.1.2.1
def lp62_0 : Nat → (List UInt8) → (List UInt8) → Bool → Option (pa62_0.den ⊕ pb62_0.den)
  | 0, _, _, _ => none
  | n + 1, v0, v1, v2 => st62_0 (lp62_0 n) (fun e0 e1 => some (.inl ((), ((), ()), ((e0, e1, ()), ())))) (some (.inr ((), ((), ()), ()))) v0 v1 v2
noncomputable def ls62_0 : LoopSum := loopBy2 k62_0 p62_0 pa62_0 pb62_0 (.exit 0) (fun v => lp62_0 fuelN v.1.1 v.2.2.1.1 v.2.2.1.2.1) 6
def fn62 (x0 : List UInt8) (x1 : Bool) (x2 : List UInt8) : Option (((List UInt8) × Bool × Unit) × (Unit)) :=
  obind (lp62_0 fuelN x2 x0 x1) fun y0 =>
    osum y0 (fun a1 =>
      some ((a1.2.2.1.1, (a1.2.2.1.2.1, ())), ())) (fun b1 =>
      none)
def sum62 : SumB := (⟨72, [(.str, false), (.bool, false)], [.str], [], fun x y => fn62 x.1 x.2.1 y.1⟩ : SumB)
noncomputable def env62 : Env := envOf2 Try.prog tt [] [(62, 0, k62_0)] [(62, 0, ls62_0)] [] [(63, sum63)]
theorem step62_0 {R : Type} (d : Nat) (n : Nat) (K : Ex → St → Option R) (v0 : List UInt8) (v1 : List UInt8) (v2 : Bool) :
    iter (some k62_0) (runD env62 (d + 6) 62 c62_0) (n + 1) (mkSt2 p62_0 ((v0, ()), ((), ()), ((v1, v2, ()), ()))) K =
      st62_0 (fun v0 v1 v2 => iter (some k62_0) (runD env62 (d + 6) 62 c62_0) n (mkSt2 p62_0 ((v0, ()), ((), ()), ((v1, v2, ()), ()))) K) (fun e0 e1 => K (.exit 0) (mkSt2 pa62_0 ((), ((), ()), ((e0, e1, ()), ())))) (K .ret (mkSt2 pb62_0 ((), ((), ()), ()))) v0 v1 v2 := by kernel_rfl
theorem it62_0 {R : Type} (d : Nat) (K : Ex → St → Option R) : ∀ (n : Nat) (v0 : List UInt8) (v1 : List UInt8) (v2 : Bool),
    iter (some k62_0) (runD env62 (d + 6) 62 c62_0) n (mkSt2 p62_0 ((v0, ()), ((), ()), ((v1, v2, ()), ()))) K = obind (lp62_0 n v0 v1 v2) fun o => osum o (fun a => K (.exit 0) (mkSt2 pa62_0 a)) fun b => K .ret (mkSt2 pb62_0 b)
  | 0, _, _, _ => rfl
  | n + 1, v0, v1, v2 => by
    rw [step62_0]
    simp only [it62_0 d K n, lp62_0, st62_0, obind_cond, obind_none, obind_some, obind_obind, obind_osum]
    try simp only [osum]
theorem ok62_0 : LoopOk env62 62 c62_0 ls62_0 := loopBy2_ok (by kernel_rfl) fun R d K v o h => ⟨fuelN, (it62_0 d K fuelN (v.1.1) (v.2.2.1.1) (v.2.2.1.2.1)).trans (congrArg (fun o => obind o _) h)⟩
theorem run62 (x0 : List UInt8) (x1 : Bool) (x2 : List UInt8) : runB env62 62 72 [(.str, false), (.bool, false)] [.str] [] (x0, x1, ()) (x2, ()) = fn62 x0 x1 x2 := by kernel_rfl
theorem lat62 : loopsAt b62 = [c62_0] := by kernel_rfl
theorem lok62 : loopsOk env62 62 b62 := loopsOk_at b62 (fun _ => rfl) (by rw [lat62]; exact (List.forall_mem_cons.2 ⟨(fun L h => by rw [show env62.lp 62 (firstRegion c62_0) = some ls62_0 by kernel_rfl] at h; cases h; exact ok62_0), (fun _ h => absurd h List.not_mem_nil)⟩))
theorem env62_ok : EnvOk env62 := envOf2_ok tok mixed noGor (sg := []) (fun _ h => absurd h List.not_mem_nil) [62] (by kernel_rfl) (by kernel_rfl) (List.forall_mem_cons.2 ⟨⟨Try.f62, b62, by kernel_rfl, by kernel_rfl, lok62⟩, (fun _ h => absurd h List.not_mem_nil)⟩) rf_ok chk_ok (hx := (List.forall_mem_cons.2 ⟨sum63_ok, (fun _ h => absurd h List.not_mem_nil)⟩))
theorem sum62_ok : SumBOk Try.prog 62 sum62 := sumB_of_run env62_ok fun x y z h => (run62 (x.1) (x.2.1) (y.1)).trans h

/-! ### (*quillwort/rules.reader).must -/
noncomputable def b67 : Code := (Try.f67.body).getD .skip
noncomputable def c67_1 : Code := cA (cA (cB (b67)))
def k67_1 : Keep := ⟨[0, 6, 7, 8, 100001], [], [], [], [], []⟩
def p67_1 : SQ := ⟨us [.ptr 0 0, .u, .u, .u, .u, .u, .v (.list .str), .v (.int .i64), .v (.int .i64)] 11, [[.ptr 0 0]], [.box 0 72 [.v .str, .v .bool]]⟩
def pa67_1 : SQ := ⟨us [] 20, [[.ptr 0 0]], [.box 0 72 [.v .str, .v .bool]]⟩
def pb67_1 : SQ := ⟨us [] 20, [[.ptr 0 0]], [.box 0 72 [.v .str, .v .bool]]⟩
def st67_1 {γ : Type} (rec : (List (List UInt8)) → Int → Int → (List UInt8) → Bool → Option γ) (kE : (List UInt8) → Bool → Option γ) (kR : (List UInt8) → Bool → Option γ) (v0 : List (List UInt8)) (v1 : Int) (v2 : Int) (v3 : List UInt8) (v4 : Bool) : Option γ :=
  bif (ltI v2 v1) then
    bif (inI v0 v2) then
      obind (fn63 v3 v4 (getI v0 [] v2)) fun y0 =>
        bif (!y0.2.1) then
          kR y0.1.1 true
        else
        rec v0 v1 (addK .i64 v2 1) y0.1.1 y0.1.2.1
    else
    none
  else
  kE v3 v4
def lp67_1 : Nat → (List (List UInt8)) → Int → Int → (List UInt8) → Bool → Option (pa67_1.den ⊕ pb67_1.den)
  | 0, _, _, _, _, _ => none
  | n + 1, v0, v1, v2, v3, v4 => st67_1 (lp67_1 n) (fun e0 e1 => some (.inl ((), ((), ()), ((e0, e1, ()), ())))) (fun r0 r1 => some (.inr ((), ((), ()), ((r0, r1, ()), ())))) v0 v1 v2 v3 v4
noncomputable def ls67_1 : LoopSum := loopBy2 k67_1 p67_1 pa67_1 pb67_1 (.exit 0) (fun v => lp67_1 fuelN v.1.1 v.1.2.1 v.1.2.2.1 v.2.2.1.1 v.2.2.1.2.1) 6
def fn67 (x0 : List UInt8) (x1 : Bool) (x2 : List (List UInt8)) : Option (((List UInt8) × Bool × Unit) × (Unit)) :=
  obind (lp67_1 fuelN x2 (lenI x2) 0 x0 x1) fun y0 =>
    osum y0 (fun a1 =>
      some ((a1.2.2.1.1, (a1.2.2.1.2.1, ())), ())) (fun b1 =>
      some ((b1.2.2.1.1, (b1.2.2.1.2.1, ())), ()))
def sum67 : SumB := (⟨72, [(.str, false), (.bool, false)], [.list .str], [], fun x y => fn67 x.1 x.2.1 y.1⟩ : SumB)
noncomputable def env67 : Env := envOf2 Try.prog tt [] [(67, 1, k67_1)] [(67, 1, ls67_1)] [] [(63, sum63)]
theorem step67_1 {R : Type} (d : Nat) (n : Nat) (K : Ex → St → Option R) (v0 : List (List UInt8)) (v1 : Int) (v2 : Int) (v3 : List UInt8) (v4 : Bool) :
    iter (some k67_1) (runD env67 (d + 6) 67 c67_1) (n + 1) (mkSt2 p67_1 ((v0, v1, v2, ()), ((), ()), ((v3, v4, ()), ()))) K =
      st67_1 (fun v0 v1 v2 v3 v4 => iter (some k67_1) (runD env67 (d + 6) 67 c67_1) n (mkSt2 p67_1 ((v0, v1, v2, ()), ((), ()), ((v3, v4, ()), ()))) K) (fun e0 e1 => K (.exit 0) (mkSt2 pa67_1 ((), ((), ()), ((e0, e1, ()), ())))) (fun r0 r1 => K .ret (mkSt2 pb67_1 ((), ((), ()), ((r0, r1, ()), ())))) v0 v1 v2 v3 v4 := by kernel_rfl
theorem it67_1 {R : Type} (d : Nat) (K : Ex → St → Option R) : ∀ (n : Nat) (v0 : List (List UInt8)) (v1 : Int) (v2 : Int) (v3 : List UInt8) (v4 : Bool),
    iter (some k67_1) (runD env67 (d + 6) 67 c67_1) n (mkSt2 p67_1 ((v0, v1, v2, ()), ((), ()), ((v3, v4, ()), ()))) K = obind (lp67_1 n v0 v1 v2 v3 v4) fun o => osum o (fun a => K (.exit 0) (mkSt2 pa67_1 a)) fun b => K .ret (mkSt2 pb67_1 b)
  | 0, _, _, _, _, _ => rfl
  | n + 1, v0, v1, v2, v3, v4 => by
    rw [step67_1]
    simp only [it67_1 d K n, lp67_1, st67_1, obind_cond, obind_none, obind_some, obind_obind, obind_osum]
    try simp only [osum]
theorem ok67_1 : LoopOk env67 67 c67_1 ls67_1 := loopBy2_ok (by kernel_rfl) fun R d K v o h => ⟨fuelN, (it67_1 d K fuelN (v.1.1) (v.1.2.1) (v.1.2.2.1) (v.2.2.1.1) (v.2.2.1.2.1)).trans (congrArg (fun o => obind o _) h)⟩
theorem run67 (x0 : List UInt8) (x1 : Bool) (x2 : List (List UInt8)) : runB env67 67 72 [(.str, false), (.bool, false)] [.list .str] [] (x0, x1, ()) (x2, ()) = fn67 x0 x1 x2 := by kernel_rfl
theorem lat67 : loopsAt b67 = [c67_1] := by kernel_rfl
theorem lok67 : loopsOk env67 67 b67 := loopsOk_at b67 (fun _ => rfl) (by rw [lat67]; exact (List.forall_mem_cons.2 ⟨(fun L h => by rw [show env67.lp 67 (firstRegion c67_1) = some ls67_1 by kernel_rfl] at h; cases h; exact ok67_1), (fun _ h => absurd h List.not_mem_nil)⟩))
theorem env67_ok : EnvOk env67 := envOf2_ok tok mixed noGor (sg := []) (fun _ h => absurd h List.not_mem_nil) [67] (by kernel_rfl) (by kernel_rfl) (List.forall_mem_cons.2 ⟨⟨Try.f67, b67, by kernel_rfl, by kernel_rfl, lok67⟩, (fun _ h => absurd h List.not_mem_nil)⟩) rf_ok chk_ok (hx := (List.forall_mem_cons.2 ⟨sum63_ok, (fun _ h => absurd h List.not_mem_nil)⟩))
theorem sum67_ok : SumBOk Try.prog 67 sum67 := sumB_of_run env67_ok fun x y z h => (run67 (x.1) (x.2.1) (y.1)).trans h

/-! ### (*quillwort/rules.reader).list -/
noncomputable def b64 : Code := (Try.f64.body).getD .skip
noncomputable def c64_1 : Code := cA (cA (cB (cB (cA (b64)))))
def k64_1 : Keep := ⟨[0, 100001], [], [], [], [], []⟩
def p64_1 : SQ := ⟨us [.ptr 0 0] 12, [[.ptr 0 0]], [.box 0 72 [.v .str, .v .bool]]⟩
def pa64_1 : SQ := ⟨us [] 13, [[.ptr 0 0]], [.box 0 72 [.v .str, .v .bool]]⟩
def pb64_1 : SQ := ⟨us [] 13, [[.ptr 0 0]], []⟩
def st64_1 {γ : Type} (rec : (List UInt8) → Bool → Option γ) (kE : (List UInt8) → Bool → Option γ) (kR : Option γ) (v0 : List UInt8) (v1 : Bool) : Option γ :=
  obind (fn63 v0 v1 [59, 38, 110]) fun y0 =>
    bif (!y0.2.1) then
      kE y0.1.1 y0.1.2.1
    else
    obind (fn62 y0.1.1 y0.1.2.1 [110]) fun y1 =>
      obind (fn63 y1.1.1 y1.1.2.1 [65]) fun y2 =>
        bif (!y2.2.1) then
          kE y2.1.1 y2.1.2.1
        else
        rec y2.1.1 y2.1.2.1
def lp64_1 : Nat → (List UInt8) → Bool → Option (pa64_1.den ⊕ pb64_1.den)
  | 0, _, _ => none
  | n + 1, v0, v1 => st64_1 (lp64_1 n) (fun e0 e1 => some (.inl ((), ((), ()), ((e0, e1, ()), ())))) (some (.inr ((), ((), ()), ()))) v0 v1
noncomputable def ls64_1 : LoopSum := loopBy2 k64_1 p64_1 pa64_1 pb64_1 (.exit 0) (fun v => lp64_1 fuelN v.2.2.1.1 v.2.2.1.2.1) 6
def fn64 (x0 : List UInt8) (x1 : Bool) : Option (((List UInt8) × Bool × Unit) × (Unit)) :=
  obind (fn67 x0 x1 [[65]]) fun y0 =>
    obind (lp64_1 fuelN y0.1.1 y0.1.2.1) fun y1 =>
      osum y1 (fun a2 =>
        some ((a2.2.2.1.1, (a2.2.2.1.2.1, ())), ())) (fun b2 =>
        none)
def sum64 : SumB := (⟨72, [(.str, false), (.bool, false)], [], [], fun x y => fn64 x.1 x.2.1⟩ : SumB)
noncomputable def env64 : Env := envOf2 Try.prog tt [] [(64, 1, k64_1)] [(64, 1, ls64_1)] [] [(62, sum62), (63, sum63), (67, sum67)]
theorem step64_1 {R : Type} (d : Nat) (n : Nat) (K : Ex → St → Option R) (v0 : List UInt8) (v1 : Bool) :
    iter (some k64_1) (runD env64 (d + 6) 64 c64_1) (n + 1) (mkSt2 p64_1 ((), ((), ()), ((v0, v1, ()), ()))) K =
      st64_1 (fun v0 v1 => iter (some k64_1) (runD env64 (d + 6) 64 c64_1) n (mkSt2 p64_1 ((), ((), ()), ((v0, v1, ()), ()))) K) (fun e0 e1 => K (.exit 0) (mkSt2 pa64_1 ((), ((), ()), ((e0, e1, ()), ())))) (K .ret (mkSt2 pb64_1 ((), ((), ()), ()))) v0 v1 := by kernel_rfl
theorem it64_1 {R : Type} (d : Nat) (K : Ex → St → Option R) : ∀ (n : Nat) (v0 : List UInt8) (v1 : Bool),
    iter (some k64_1) (runD env64 (d + 6) 64 c64_1) n (mkSt2 p64_1 ((), ((), ()), ((v0, v1, ()), ()))) K = obind (lp64_1 n v0 v1) fun o => osum o (fun a => K (.exit 0) (mkSt2 pa64_1 a)) fun b => K .ret (mkSt2 pb64_1 b)
  | 0, _, _ => rfl
  | n + 1, v0, v1 => by
    rw [step64_1]
    simp only [it64_1 d K n, lp64_1, st64_1, obind_cond, obind_none, obind_some, obind_obind, obind_osum]
    try simp only [osum]
theorem ok64_1 : LoopOk env64 64 c64_1 ls64_1 := loopBy2_ok (by kernel_rfl) fun R d K v o h => ⟨fuelN, (it64_1 d K fuelN (v.2.2.1.1) (v.2.2.1.2.1)).trans (congrArg (fun o => obind o _) h)⟩
theorem run64 (x0 : List UInt8) (x1 : Bool) : runB env64 64 72 [(.str, false), (.bool, false)] [] [] (x0, x1, ()) () = fn64 x0 x1 := by kernel_rfl
theorem lat64 : loopsAt b64 = [c64_1] := by kernel_rfl
theorem lok64 : loopsOk env64 64 b64 := loopsOk_at b64 (fun _ => rfl) (by rw [lat64]; exact (List.forall_mem_cons.2 ⟨(fun L h => by rw [show env64.lp 64 (firstRegion c64_1) = some ls64_1 by kernel_rfl] at h; cases h; exact ok64_1), (fun _ h => absurd h List.not_mem_nil)⟩))
theorem env64_ok : EnvOk env64 := envOf2_ok tok mixed noGor (sg := []) (fun _ h => absurd h List.not_mem_nil) [64] (by kernel_rfl) (by kernel_rfl) (List.forall_mem_cons.2 ⟨⟨Try.f64, b64, by kernel_rfl, by kernel_rfl, lok64⟩, (fun _ h => absurd h List.not_mem_nil)⟩) rf_ok chk_ok (hx := (List.forall_mem_cons.2 ⟨sum62_ok, (List.forall_mem_cons.2 ⟨sum63_ok, (List.forall_mem_cons.2 ⟨sum67_ok, (fun _ h => absurd h List.not_mem_nil)⟩)⟩)⟩))
theorem sum64_ok : SumBOk Try.prog 64 sum64 := sumB_of_run env64_ok fun x y z h => (run64 (x.1) (x.2.1)).trans h

/-! ### (*quillwort/rules.reader).joined -/
noncomputable def b65 : Code := (Try.f65.body).getD .skip
noncomputable def c65_1 : Code := cA (cA (cB (b65)))
def k65_1 : Keep := ⟨[0, 1, 2, 100001], [], [], [], [], []⟩
def p65_1 : SQ := ⟨us [.ptr 0 0, .v .str, .v .str] 16, [[.ptr 0 0]], [.box 0 72 [.v .str, .v .bool]]⟩
def pa65_1 : SQ := ⟨us [] 19, [[.ptr 0 0]], [.box 0 72 [.v .str, .v .bool]]⟩
def pb65_1 : SQ := ⟨us [] 19, [[.ptr 0 0]], []⟩
def st65_1 {γ : Type} (rec : (List UInt8) → (List UInt8) → (List UInt8) → Bool → Option γ) (kE : (List UInt8) → Bool → Option γ) (kR : Option γ) (v0 : List UInt8) (v1 : List UInt8) (v2 : List UInt8) (v3 : Bool) : Option γ :=
  obind (fn63 v2 v3 v1) fun y0 =>
    bif y0.2.1 then
      obind (fn62 y0.1.1 y0.1.2.1 [110]) fun y1 =>
        obind (fn67 y1.1.1 y1.1.2.1 [v0]) fun y2 =>
          rec v0 v1 y2.1.1 y2.1.2.1
    else
    kE y0.1.1 y0.1.2.1
def lp65_1 : Nat → (List UInt8) → (List UInt8) → (List UInt8) → Bool → Option (pa65_1.den ⊕ pb65_1.den)
  | 0, _, _, _, _ => none
  | n + 1, v0, v1, v2, v3 => st65_1 (lp65_1 n) (fun e0 e1 => some (.inl ((), ((), ()), ((e0, e1, ()), ())))) (some (.inr ((), ((), ()), ()))) v0 v1 v2 v3
noncomputable def ls65_1 : LoopSum := loopBy2 k65_1 p65_1 pa65_1 pb65_1 (.exit 0) (fun v => lp65_1 fuelN v.1.1 v.1.2.1 v.2.2.1.1 v.2.2.1.2.1) 6
def fn65 (x0 : List UInt8) (x1 : Bool) (x2 : List UInt8) (x3 : List UInt8) : Option (((List UInt8) × Bool × Unit) × (Unit)) :=
  obind (fn67 x0 x1 [x2]) fun y0 =>
    obind (lp65_1 fuelN x2 x3 y0.1.1 y0.1.2.1) fun y1 =>
      osum y1 (fun a2 =>
        some ((a2.2.2.1.1, (a2.2.2.1.2.1, ())), ())) (fun b2 =>
        none)
def sum65 : SumB := (⟨72, [(.str, false), (.bool, false)], [.str, .str], [], fun x y => fn65 x.1 x.2.1 y.1 y.2.1⟩ : SumB)
noncomputable def env65 : Env := envOf2 Try.prog tt [] [(65, 1, k65_1)] [(65, 1, ls65_1)] [] [(62, sum62), (63, sum63), (67, sum67)]
theorem step65_1 {R : Type} (d : Nat) (n : Nat) (K : Ex → St → Option R) (v0 : List UInt8) (v1 : List UInt8) (v2 : List UInt8) (v3 : Bool) :
    iter (some k65_1) (runD env65 (d + 6) 65 c65_1) (n + 1) (mkSt2 p65_1 ((v0, v1, ()), ((), ()), ((v2, v3, ()), ()))) K =
      st65_1 (fun v0 v1 v2 v3 => iter (some k65_1) (runD env65 (d + 6) 65 c65_1) n (mkSt2 p65_1 ((v0, v1, ()), ((), ()), ((v2, v3, ()), ()))) K) (fun e0 e1 => K (.exit 0) (mkSt2 pa65_1 ((), ((), ()), ((e0, e1, ()), ())))) (K .ret (mkSt2 pb65_1 ((), ((), ()), ()))) v0 v1 v2 v3 := by kernel_rfl
theorem it65_1 {R : Type} (d : Nat) (K : Ex → St → Option R) : ∀ (n : Nat) (v0 : List UInt8) (v1 : List UInt8) (v2 : List UInt8) (v3 : Bool),
    iter (some k65_1) (runD env65 (d + 6) 65 c65_1) n (mkSt2 p65_1 ((v0, v1, ()), ((), ()), ((v2, v3, ()), ()))) K = obind (lp65_1 n v0 v1 v2 v3) fun o => osum o (fun a => K (.exit 0) (mkSt2 pa65_1 a)) fun b => K .ret (mkSt2 pb65_1 b)
  | 0, _, _, _, _ => rfl
  | n + 1, v0, v1, v2, v3 => by
    rw [step65_1]
    simp only [it65_1 d K n, lp65_1, st65_1, obind_cond, obind_none, obind_some, obind_obind, obind_osum]
    try simp only [osum]
theorem ok65_1 : LoopOk env65 65 c65_1 ls65_1 := loopBy2_ok (by kernel_rfl) fun R d K v o h => ⟨fuelN, (it65_1 d K fuelN (v.1.1) (v.1.2.1) (v.2.2.1.1) (v.2.2.1.2.1)).trans (congrArg (fun o => obind o _) h)⟩
theorem run65 (x0 : List UInt8) (x1 : Bool) (x2 : List UInt8) (x3 : List UInt8) : runB env65 65 72 [(.str, false), (.bool, false)] [.str, .str] [] (x0, x1, ()) (x2, x3, ()) = fn65 x0 x1 x2 x3 := by kernel_rfl
theorem lat65 : loopsAt b65 = [c65_1] := by kernel_rfl
theorem lok65 : loopsOk env65 65 b65 := loopsOk_at b65 (fun _ => rfl) (by rw [lat65]; exact (List.forall_mem_cons.2 ⟨(fun L h => by rw [show env65.lp 65 (firstRegion c65_1) = some ls65_1 by kernel_rfl] at h; cases h; exact ok65_1), (fun _ h => absurd h List.not_mem_nil)⟩))
theorem env65_ok : EnvOk env65 := envOf2_ok tok mixed noGor (sg := []) (fun _ h => absurd h List.not_mem_nil) [65] (by kernel_rfl) (by kernel_rfl) (List.forall_mem_cons.2 ⟨⟨Try.f65, b65, by kernel_rfl, by kernel_rfl, lok65⟩, (fun _ h => absurd h List.not_mem_nil)⟩) rf_ok chk_ok (hx := (List.forall_mem_cons.2 ⟨sum62_ok, (List.forall_mem_cons.2 ⟨sum63_ok, (List.forall_mem_cons.2 ⟨sum67_ok, (fun _ h => absurd h List.not_mem_nil)⟩)⟩)⟩))
theorem sum65_ok : SumBOk Try.prog 65 sum65 := sumB_of_run env65_ok fun x y z h => (run65 (x.1) (x.2.1) (y.1) (y.2.1)).trans h

/-! ### (*quillwort/rules.reader).simple -/
def fn66 (x0 : List UInt8) (x1 : Bool) : Option (((List UInt8) × Bool × Unit) × (Unit)) :=
  obind (fn62 x0 (eqS x0 []) [88, 82]) fun y0 =>
    obind (fn63 y0.1.1 y0.1.2.1 [87]) fun y1 =>
      bif y1.2.1 then
        obind (fn62 y1.1.1 y1.1.2.1 [87, 82]) fun y2 =>
          some ((y2.1.1, (y2.1.2.1, ())), ())
      else
      some ((y1.1.1, (y1.1.2.1, ())), ())
def sum66 : SumB := (⟨72, [(.str, false), (.bool, false)], [], [], fun x y => fn66 x.1 x.2.1⟩ : SumB)
noncomputable def env66 : Env := envOf2 Try.prog tt [] [] [] [] [(62, sum62), (63, sum63)]
theorem run66 (x0 : List UInt8) (x1 : Bool) : runB env66 66 72 [(.str, false), (.bool, false)] [] [] (x0, x1, ()) () = fn66 x0 x1 := by kernel_rfl
theorem env66_ok : EnvOk env66 := envOf2_ok tok mixed noGor (sg := []) (fun _ h => absurd h List.not_mem_nil) [] (by kernel_rfl) (by kernel_rfl) (fun _ h => absurd h List.not_mem_nil) rf_ok chk_ok (hx := (List.forall_mem_cons.2 ⟨sum62_ok, (List.forall_mem_cons.2 ⟨sum63_ok, (fun _ h => absurd h List.not_mem_nil)⟩)⟩))
theorem sum66_ok : SumBOk Try.prog 66 sum66 := sumB_of_run env66_ok fun x y z h => (run66 (x.1) (x.2.1)).trans h

/-! ### (*quillwort/rules.reader).body -/
def fn80 (x0 : List UInt8) (x1 : Bool) : Option (((List UInt8) × Bool × Unit) × (Unit)) :=
  obind (fn62 x0 x1 [110]) fun y0 =>
    obind (fn67 y0.1.1 y0.1.2.1 [[76]]) fun y1 =>
      some ((y1.1.1, (y1.1.2.1, ())), ())
def sum80 : SumB := (⟨72, [(.str, false), (.bool, false)], [], [], fun x y => fn80 x.1 x.2.1⟩ : SumB)
noncomputable def env80 : Env := envOf2 Try.prog tt [] [] [] [] [(62, sum62), (67, sum67)]
theorem run80 (x0 : List UInt8) (x1 : Bool) : runB env80 80 72 [(.str, false), (.bool, false)] [] [] (x0, x1, ()) () = fn80 x0 x1 := by kernel_rfl
theorem env80_ok : EnvOk env80 := envOf2_ok tok mixed noGor (sg := []) (fun _ h => absurd h List.not_mem_nil) [] (by kernel_rfl) (by kernel_rfl) (fun _ h => absurd h List.not_mem_nil) rf_ok chk_ok (hx := (List.forall_mem_cons.2 ⟨sum62_ok, (List.forall_mem_cons.2 ⟨sum67_ok, (fun _ h => absurd h List.not_mem_nil)⟩)⟩))
theorem sum80_ok : SumBOk Try.prog 80 sum80 := sumB_of_run env80_ok fun x y z h => (run80 (x.1) (x.2.1)).trans h

/-! ### (*quillwort/rules.reader).ends -/
def fn81 (x0 : List UInt8) (x1 : Bool) : Option (((List UInt8) × Bool × Unit) × (Unit)) :=
  obind (fn62 x0 x1 [82]) fun y0 =>
    some ((y0.1.1, (y0.1.2.1, ())), ())
def sum81 : SumB := (⟨72, [(.str, false), (.bool, false)], [], [], fun x y => fn81 x.1 x.2.1⟩ : SumB)
noncomputable def env81 : Env := envOf2 Try.prog tt [] [] [] [] [(62, sum62)]
theorem run81 (x0 : List UInt8) (x1 : Bool) : runB env81 81 72 [(.str, false), (.bool, false)] [] [] (x0, x1, ()) () = fn81 x0 x1 := by kernel_rfl
theorem env81_ok : EnvOk env81 := envOf2_ok tok mixed noGor (sg := []) (fun _ h => absurd h List.not_mem_nil) [] (by kernel_rfl) (by kernel_rfl) (fun _ h => absurd h List.not_mem_nil) rf_ok chk_ok (hx := (List.forall_mem_cons.2 ⟨sum62_ok, (fun _ h => absurd h List.not_mem_nil)⟩))
theorem sum81_ok : SumBOk Try.prog 81 sum81 := sumB_of_run env81_ok fun x y z h => (run81 (x.1) (x.2.1)).trans h

/-! ### (*quillwort/rules.reader).branches -/
noncomputable def b82 : Code := (Try.f82.body).getD .skip
noncomputable def c82_4 : Code := cA (cA (cA (cB (cB (cB (cB (b82)))))))
def k82_4 : Keep := ⟨[0, 100004], [], [0], [], [], []⟩
def p82_4 : SQ := ⟨us [.ptr 0 0] 29, [[.ptr 0 0]], [.box 0 72 [.v .str, .v .bool]]⟩
def pa82_4 : SQ := ⟨us [.ptr 0 0] 29, [[.ptr 0 0]], [.box 0 72 [.v .str, .v .bool]]⟩
def pb82_4 : SQ := ⟨us [] 30, [[.ptr 0 0]], []⟩
def st82_4 {γ : Type} (rec : (List UInt8) → Bool → Option γ) (kE : (List UInt8) → Bool → Option γ) (kR : Option γ) (v0 : List UInt8) (v1 : Bool) : Option γ :=
  obind (fn63 v0 v1 [101]) fun y0 =>
    bif y0.2.1 then
      obind (fn80 y0.1.1 y0.1.2.1) fun y1 =>
        obind (fn67 y1.1.1 y1.1.2.1 [[116]]) fun y2 =>
          obind (fn80 y2.1.1 y2.1.2.1) fun y3 =>
            rec y3.1.1 y3.1.2.1
    else
    kE y0.1.1 y0.1.2.1
def lp82_4 : Nat → (List UInt8) → Bool → Option (pa82_4.den ⊕ pb82_4.den)
  | 0, _, _ => none
  | n + 1, v0, v1 => st82_4 (lp82_4 n) (fun e0 e1 => some (.inl ((), ((), ()), ((e0, e1, ()), ())))) (some (.inr ((), ((), ()), ()))) v0 v1
noncomputable def ls82_4 : LoopSum := loopBy2 k82_4 p82_4 pa82_4 pb82_4 (.exit 0) (fun v => lp82_4 fuelN v.2.2.1.1 v.2.2.1.2.1) 6
def fn82 (x0 : List UInt8) (x1 : Bool) : Option (((List UInt8) × Bool × Unit) × (Unit)) :=
  obind (fn67 x0 x1 [[105]]) fun y0 =>
    obind (fn80 y0.1.1 y0.1.2.1) fun y1 =>
      obind (fn67 y1.1.1 y1.1.2.1 [[116]]) fun y2 =>
        obind (fn80 y2.1.1 y2.1.2.1) fun y3 =>
          obind (lp82_4 fuelN y3.1.1 y3.1.2.1) fun y4 =>
            osum y4 (fun a5 =>
              obind (fn63 a5.2.2.1.1 a5.2.2.1.2.1 [108]) fun y6 =>
                bif y6.2.1 then
                  obind (fn80 y6.1.1 y6.1.2.1) fun y7 =>
                    obind (fn67 y7.1.1 y7.1.2.1 [[102]]) fun y8 =>
                      obind (fn81 y8.1.1 y8.1.2.1) fun y9 =>
                        some ((y9.1.1, (y9.1.2.1, ())), ())
                else
                obind (fn67 y6.1.1 y6.1.2.1 [[102]]) fun y7 =>
                  obind (fn81 y7.1.1 y7.1.2.1) fun y8 =>
                    some ((y8.1.1, (y8.1.2.1, ())), ())) (fun b5 =>
              none)
def sum82 : SumB := (⟨72, [(.str, false), (.bool, false)], [], [], fun x y => fn82 x.1 x.2.1⟩ : SumB)
noncomputable def env82 : Env := envOf2 Try.prog tt [] [(82, 4, k82_4)] [(82, 4, ls82_4)] [] [(63, sum63), (67, sum67), (80, sum80), (81, sum81)]
theorem step82_4 {R : Type} (d : Nat) (n : Nat) (K : Ex → St → Option R) (v0 : List UInt8) (v1 : Bool) :
    iter (some k82_4) (runD env82 (d + 6) 82 c82_4) (n + 1) (mkSt2 p82_4 ((), ((), ()), ((v0, v1, ()), ()))) K =
      st82_4 (fun v0 v1 => iter (some k82_4) (runD env82 (d + 6) 82 c82_4) n (mkSt2 p82_4 ((), ((), ()), ((v0, v1, ()), ()))) K) (fun e0 e1 => K (.exit 0) (mkSt2 pa82_4 ((), ((), ()), ((e0, e1, ()), ())))) (K .ret (mkSt2 pb82_4 ((), ((), ()), ()))) v0 v1 := by kernel_rfl
theorem it82_4 {R : Type} (d : Nat) (K : Ex → St → Option R) : ∀ (n : Nat) (v0 : List UInt8) (v1 : Bool),
    iter (some k82_4) (runD env82 (d + 6) 82 c82_4) n (mkSt2 p82_4 ((), ((), ()), ((v0, v1, ()), ()))) K = obind (lp82_4 n v0 v1) fun o => osum o (fun a => K (.exit 0) (mkSt2 pa82_4 a)) fun b => K .ret (mkSt2 pb82_4 b)
  | 0, _, _ => rfl
  | n + 1, v0, v1 => by
    rw [step82_4]
    simp only [it82_4 d K n, lp82_4, st82_4, obind_cond, obind_none, obind_some, obind_obind, obind_osum]
    try simp only [osum]
theorem ok82_4 : LoopOk env82 82 c82_4 ls82_4 := loopBy2_ok (by kernel_rfl) fun R d K v o h => ⟨fuelN, (it82_4 d K fuelN (v.2.2.1.1) (v.2.2.1.2.1)).trans (congrArg (fun o => obind o _) h)⟩
theorem run82 (x0 : List UInt8) (x1 : Bool) : runB env82 82 72 [(.str, false), (.bool, false)] [] [] (x0, x1, ()) () = fn82 x0 x1 := by kernel_rfl
theorem lat82 : loopsAt b82 = [c82_4] := by kernel_rfl
theorem lok82 : loopsOk env82 82 b82 := loopsOk_at b82 (fun _ => rfl) (by rw [lat82]; exact (List.forall_mem_cons.2 ⟨(fun L h => by rw [show env82.lp 82 (firstRegion c82_4) = some ls82_4 by kernel_rfl] at h; cases h; exact ok82_4), (fun _ h => absurd h List.not_mem_nil)⟩))
theorem env82_ok : EnvOk env82 := envOf2_ok tok mixed noGor (sg := []) (fun _ h => absurd h List.not_mem_nil) [82] (by kernel_rfl) (by kernel_rfl) (List.forall_mem_cons.2 ⟨⟨Try.f82, b82, by kernel_rfl, by kernel_rfl, lok82⟩, (fun _ h => absurd h List.not_mem_nil)⟩) rf_ok chk_ok (hx := (List.forall_mem_cons.2 ⟨sum63_ok, (List.forall_mem_cons.2 ⟨sum67_ok, (List.forall_mem_cons.2 ⟨sum80_ok, (List.forall_mem_cons.2 ⟨sum81_ok, (fun _ h => absurd h List.not_mem_nil)⟩)⟩)⟩)⟩))
theorem sum82_ok : SumBOk Try.prog 82 sum82 := sumB_of_run env82_ok fun x y z h => (run82 (x.1) (x.2.1)).trans h

/-! ### (*quillwort/rules.reader).do -/
def fn83 (x0 : List UInt8) (x1 : Bool) : Option (((List UInt8) × Bool × Unit) × (Unit)) :=
  obind (fn67 x0 x1 [[100]]) fun y0 =>
    obind (fn80 y0.1.1 y0.1.2.1) fun y1 =>
      obind (fn67 y1.1.1 y1.1.2.1 [[103]]) fun y2 =>
        obind (fn81 y2.1.1 y2.1.2.1) fun y3 =>
          some ((y3.1.1, (y3.1.2.1, ())), ())
def sum83 : SumB := (⟨72, [(.str, false), (.bool, false)], [], [], fun x y => fn83 x.1 x.2.1⟩ : SumB)
noncomputable def env83 : Env := envOf2 Try.prog tt [] [] [] [] [(67, sum67), (80, sum80), (81, sum81)]
theorem run83 (x0 : List UInt8) (x1 : Bool) : runB env83 83 72 [(.str, false), (.bool, false)] [] [] (x0, x1, ()) () = fn83 x0 x1 := by kernel_rfl
theorem env83_ok : EnvOk env83 := envOf2_ok tok mixed noGor (sg := []) (fun _ h => absurd h List.not_mem_nil) [] (by kernel_rfl) (by kernel_rfl) (fun _ h => absurd h List.not_mem_nil) rf_ok chk_ok (hx := (List.forall_mem_cons.2 ⟨sum67_ok, (List.forall_mem_cons.2 ⟨sum80_ok, (List.forall_mem_cons.2 ⟨sum81_ok, (fun _ h => absurd h List.not_mem_nil)⟩)⟩)⟩))
theorem sum83_ok : SumBOk Try.prog 83 sum83 := sumB_of_run env83_ok fun x y z h => (run83 (x.1) (x.2.1)).trans h

/-! ### (*quillwort/rules.reader).loop -/
def fn84 (x0 : List UInt8) (x1 : Bool) : Option (((List UInt8) × Bool × Unit) × (Unit)) :=
  obind (fn67 x0 x1 [[114], [87]]) fun y0 =>
    obind (fn63 y0.1.1 y0.1.2.1 [59]) fun y1 =>
      bif y1.2.1 then
        obind (fn62 y1.1.1 y1.1.2.1 [110]) fun y2 =>
          obind (fn83 y2.1.1 y2.1.2.1) fun y3 =>
            some ((y3.1.1, (y3.1.2.1, ())), ())
      else
      obind (fn62 y1.1.1 y1.1.2.1 [110]) fun y2 =>
        obind (fn63 y2.1.1 y2.1.2.1 [107]) fun y3 =>
          bif y3.2.1 then
            obind (fn62 y3.1.1 y3.1.2.1 [87]) fun y4 =>
              obind (fn63 y4.1.1 y4.1.2.1 [59]) fun y5 =>
                bif (!y5.2.1) then
                  obind (fn67 y5.1.1 y5.1.2.1 [[110]]) fun y6 =>
                    obind (fn62 y6.1.1 y6.1.2.1 [110]) fun y7 =>
                      obind (fn83 y7.1.1 y7.1.2.1) fun y8 =>
                        some ((y8.1.1, (y8.1.2.1, ())), ())
                else
                obind (fn62 y5.1.1 y5.1.2.1 [110]) fun y6 =>
                  obind (fn83 y6.1.1 y6.1.2.1) fun y7 =>
                    some ((y7.1.1, (y7.1.2.1, ())), ())
          else
          obind (fn83 y3.1.1 y3.1.2.1) fun y4 =>
            some ((y4.1.1, (y4.1.2.1, ())), ())
def sum84 : SumB := (⟨72, [(.str, false), (.bool, false)], [], [], fun x y => fn84 x.1 x.2.1⟩ : SumB)
noncomputable def env84 : Env := envOf2 Try.prog tt [] [] [] [] [(62, sum62), (63, sum63), (67, sum67), (83, sum83)]
theorem run84 (x0 : List UInt8) (x1 : Bool) : runB env84 84 72 [(.str, false), (.bool, false)] [] [] (x0, x1, ()) () = fn84 x0 x1 := by kernel_rfl
theorem env84_ok : EnvOk env84 := envOf2_ok tok mixed noGor (sg := []) (fun _ h => absurd h List.not_mem_nil) [] (by kernel_rfl) (by kernel_rfl) (fun _ h => absurd h List.not_mem_nil) rf_ok chk_ok (hx := (List.forall_mem_cons.2 ⟨sum62_ok, (List.forall_mem_cons.2 ⟨sum63_ok, (List.forall_mem_cons.2 ⟨sum67_ok, (List.forall_mem_cons.2 ⟨sum83_ok, (fun _ h => absurd h List.not_mem_nil)⟩)⟩)⟩)⟩))
theorem sum84_ok : SumBOk Try.prog 84 sum84 := sumB_of_run env84_ok fun x y z h => (run84 (x.1) (x.2.1)).trans h

/-! ### (*quillwort/rules.reader).cases -/
noncomputable def b85 : Code := (Try.f85.body).getD .skip
noncomputable def c85_4 : Code := cA (cA (cA (cB (cB (cB (cB (b85)))))))
def k85_4 : Keep := ⟨[0, 100004], [], [0], [], [], []⟩
def p85_4 : SQ := ⟨us [.ptr 0 0] 24, [[.ptr 0 0]], [.box 0 72 [.v .str, .v .bool]]⟩
def pa85_4 : SQ := ⟨us [.ptr 0 0] 24, [[.ptr 0 0]], [.box 0 72 [.v .str, .v .bool]]⟩
def pb85_4 : SQ := ⟨us [] 25, [[.ptr 0 0]], []⟩
def st85_4 {γ : Type} (rec : (List UInt8) → Bool → Option γ) (kE : (List UInt8) → Bool → Option γ) (kR : Option γ) (v0 : List UInt8) (v1 : Bool) : Option γ :=
  obind (fn63 v0 v1 [84]) fun y0 =>
    bif y0.2.1 then
      obind (fn63 y0.1.1 y0.1.2.1 [121]) fun y1 =>
        bif y1.2.1 then
          obind (fn62 y1.1.1 y1.1.2.1 [110]) fun y2 =>
            rec y2.1.1 y2.1.2.1
        else
        kE y1.1.1 y1.1.2.1
    else
    kE y0.1.1 y0.1.2.1
def lp85_4 : Nat → (List UInt8) → Bool → Option (pa85_4.den ⊕ pb85_4.den)
  | 0, _, _ => none
  | n + 1, v0, v1 => st85_4 (lp85_4 n) (fun e0 e1 => some (.inl ((), ((), ()), ((e0, e1, ()), ())))) (some (.inr ((), ((), ()), ()))) v0 v1
noncomputable def ls85_4 : LoopSum := loopBy2 k85_4 p85_4 pa85_4 pb85_4 (.exit 0) (fun v => lp85_4 fuelN v.2.2.1.1 v.2.2.1.2.1) 6
def fn85 (x0 : List UInt8) (x1 : Bool) : Option (((List UInt8) × Bool × Unit) × (Unit)) :=
  obind (fn67 x0 x1 [[99], [87]]) fun y0 =>
    obind (fn62 y0.1.1 y0.1.2.1 [110]) fun y1 =>
      obind (fn67 y1.1.1 y1.1.2.1 [[107]]) fun y2 =>
        obind (fn62 y2.1.1 y2.1.2.1 [110]) fun y3 =>
          obind (lp85_4 fuelN y3.1.1 y3.1.2.1) fun y4 =>
            osum y4 (fun a5 =>
              obind (fn67 a5.2.2.1.1 a5.2.2.1.2.1 [[122]]) fun y6 =>
                obind (fn81 y6.1.1 y6.1.2.1) fun y7 =>
                  some ((y7.1.1, (y7.1.2.1, ())), ())) (fun b5 =>
              none)
def sum85 : SumB := (⟨72, [(.str, false), (.bool, false)], [], [], fun x y => fn85 x.1 x.2.1⟩ : SumB)
noncomputable def env85 : Env := envOf2 Try.prog tt [] [(85, 4, k85_4)] [(85, 4, ls85_4)] [] [(62, sum62), (63, sum63), (67, sum67), (81, sum81)]
theorem step85_4 {R : Type} (d : Nat) (n : Nat) (K : Ex → St → Option R) (v0 : List UInt8) (v1 : Bool) :
    iter (some k85_4) (runD env85 (d + 6) 85 c85_4) (n + 1) (mkSt2 p85_4 ((), ((), ()), ((v0, v1, ()), ()))) K =
      st85_4 (fun v0 v1 => iter (some k85_4) (runD env85 (d + 6) 85 c85_4) n (mkSt2 p85_4 ((), ((), ()), ((v0, v1, ()), ()))) K) (fun e0 e1 => K (.exit 0) (mkSt2 pa85_4 ((), ((), ()), ((e0, e1, ()), ())))) (K .ret (mkSt2 pb85_4 ((), ((), ()), ()))) v0 v1 := by kernel_rfl
theorem it85_4 {R : Type} (d : Nat) (K : Ex → St → Option R) : ∀ (n : Nat) (v0 : List UInt8) (v1 : Bool),
    iter (some k85_4) (runD env85 (d + 6) 85 c85_4) n (mkSt2 p85_4 ((), ((), ()), ((v0, v1, ()), ()))) K = obind (lp85_4 n v0 v1) fun o => osum o (fun a => K (.exit 0) (mkSt2 pa85_4 a)) fun b => K .ret (mkSt2 pb85_4 b)
  | 0, _, _ => rfl
  | n + 1, v0, v1 => by
    rw [step85_4]
    simp only [it85_4 d K n, lp85_4, st85_4, obind_cond, obind_none, obind_some, obind_obind, obind_osum]
    try simp only [osum]
theorem ok85_4 : LoopOk env85 85 c85_4 ls85_4 := loopBy2_ok (by kernel_rfl) fun R d K v o h => ⟨fuelN, (it85_4 d K fuelN (v.2.2.1.1) (v.2.2.1.2.1)).trans (congrArg (fun o => obind o _) h)⟩
theorem run85 (x0 : List UInt8) (x1 : Bool) : runB env85 85 72 [(.str, false), (.bool, false)] [] [] (x0, x1, ()) () = fn85 x0 x1 := by kernel_rfl
theorem lat85 : loopsAt b85 = [c85_4] := by kernel_rfl
theorem lok85 : loopsOk env85 85 b85 := loopsOk_at b85 (fun _ => rfl) (by rw [lat85]; exact (List.forall_mem_cons.2 ⟨(fun L h => by rw [show env85.lp 85 (firstRegion c85_4) = some ls85_4 by kernel_rfl] at h; cases h; exact ok85_4), (fun _ h => absurd h List.not_mem_nil)⟩))
theorem env85_ok : EnvOk env85 := envOf2_ok tok mixed noGor (sg := []) (fun _ h => absurd h List.not_mem_nil) [85] (by kernel_rfl) (by kernel_rfl) (List.forall_mem_cons.2 ⟨⟨Try.f85, b85, by kernel_rfl, by kernel_rfl, lok85⟩, (fun _ h => absurd h List.not_mem_nil)⟩) rf_ok chk_ok (hx := (List.forall_mem_cons.2 ⟨sum62_ok, (List.forall_mem_cons.2 ⟨sum63_ok, (List.forall_mem_cons.2 ⟨sum67_ok, (List.forall_mem_cons.2 ⟨sum81_ok, (fun _ h => absurd h List.not_mem_nil)⟩)⟩)⟩)⟩))
theorem sum85_ok : SumBOk Try.prog 85 sum85 := sumB_of_run env85_ok fun x y z h => (run85 (x.1) (x.2.1)).trans h

/-! ### (*quillwort/rules.reader).item -/
noncomputable def b86 : Code := (Try.f86.body).getD .skip
noncomputable def c86_2 : Code := cA (cA (cA (cB (cB (b86)))))
def k86_2 : Keep := ⟨[0, 100002], [], [0], [], [], []⟩
def p86_2 : SQ := ⟨us [.ptr 0 0] 18, [[.ptr 0 0]], [.box 0 72 [.v .str, .v .bool]]⟩
def pa86_2 : SQ := ⟨us [.ptr 0 0] 18, [[.ptr 0 0]], [.box 0 72 [.v .str, .v .bool]]⟩
def pb86_2 : SQ := ⟨us [] 19, [[.ptr 0 0]], []⟩
def st86_2 {γ : Type} (rec : (List UInt8) → Bool → Option γ) (kE : (List UInt8) → Bool → Option γ) (kR : Option γ) (v0 : List UInt8) (v1 : Bool) : Option γ :=
  obind (fn63 v0 v1 [124]) fun y0 =>
    bif y0.2.1 then
      obind (fn67 y0.1.1 y0.1.2.1 [[87]]) fun y1 =>
        rec y1.1.1 y1.1.2.1
    else
    kE y0.1.1 y0.1.2.1
def lp86_2 : Nat → (List UInt8) → Bool → Option (pa86_2.den ⊕ pb86_2.den)
  | 0, _, _ => none
  | n + 1, v0, v1 => st86_2 (lp86_2 n) (fun e0 e1 => some (.inl ((), ((), ()), ((e0, e1, ()), ())))) (some (.inr ((), ((), ()), ()))) v0 v1
noncomputable def ls86_2 : LoopSum := loopBy2 k86_2 p86_2 pa86_2 pb86_2 (.exit 0) (fun v => lp86_2 fuelN v.2.2.1.1 v.2.2.1.2.1) 6
def fn86 (x0 : List UInt8) (x1 : Bool) : Option (((List UInt8) × Bool × Unit) × (Unit)) :=
  obind (fn63 x0 x1 [40]) fun y0 =>
    obind (fn67 y0.1.1 y0.1.2.1 [[87]]) fun y1 =>
      obind (lp86_2 fuelN y1.1.1 y1.1.2.1) fun y2 =>
        osum y2 (fun a3 =>
          obind (fn67 a3.2.2.1.1 a3.2.2.1.2.1 [[41]]) fun y4 =>
            obind (fn62 y4.1.1 y4.1.2.1 [110]) fun y5 =>
              obind (fn63 y5.1.1 y5.1.2.1 [76]) fun y6 =>
                some ((y6.1.1, (y6.1.2.1, ())), ())) (fun b3 =>
          none)
def sum86 : SumB := (⟨72, [(.str, false), (.bool, false)], [], [], fun x y => fn86 x.1 x.2.1⟩ : SumB)
noncomputable def env86 : Env := envOf2 Try.prog tt [] [(86, 2, k86_2)] [(86, 2, ls86_2)] [] [(62, sum62), (63, sum63), (67, sum67)]
theorem step86_2 {R : Type} (d : Nat) (n : Nat) (K : Ex → St → Option R) (v0 : List UInt8) (v1 : Bool) :
    iter (some k86_2) (runD env86 (d + 6) 86 c86_2) (n + 1) (mkSt2 p86_2 ((), ((), ()), ((v0, v1, ()), ()))) K =
      st86_2 (fun v0 v1 => iter (some k86_2) (runD env86 (d + 6) 86 c86_2) n (mkSt2 p86_2 ((), ((), ()), ((v0, v1, ()), ()))) K) (fun e0 e1 => K (.exit 0) (mkSt2 pa86_2 ((), ((), ()), ((e0, e1, ()), ())))) (K .ret (mkSt2 pb86_2 ((), ((), ()), ()))) v0 v1 := by kernel_rfl
theorem it86_2 {R : Type} (d : Nat) (K : Ex → St → Option R) : ∀ (n : Nat) (v0 : List UInt8) (v1 : Bool),
    iter (some k86_2) (runD env86 (d + 6) 86 c86_2) n (mkSt2 p86_2 ((), ((), ()), ((v0, v1, ()), ()))) K = obind (lp86_2 n v0 v1) fun o => osum o (fun a => K (.exit 0) (mkSt2 pa86_2 a)) fun b => K .ret (mkSt2 pb86_2 b)
  | 0, _, _ => rfl
  | n + 1, v0, v1 => by
    rw [step86_2]
    simp only [it86_2 d K n, lp86_2, st86_2, obind_cond, obind_none, obind_some, obind_obind, obind_osum]
    try simp only [osum]
theorem ok86_2 : LoopOk env86 86 c86_2 ls86_2 := loopBy2_ok (by kernel_rfl) fun R d K v o h => ⟨fuelN, (it86_2 d K fuelN (v.2.2.1.1) (v.2.2.1.2.1)).trans (congrArg (fun o => obind o _) h)⟩
theorem run86 (x0 : List UInt8) (x1 : Bool) : runB env86 86 72 [(.str, false), (.bool, false)] [] [] (x0, x1, ()) () = fn86 x0 x1 := by kernel_rfl
theorem lat86 : loopsAt b86 = [c86_2] := by kernel_rfl
theorem lok86 : loopsOk env86 86 b86 := loopsOk_at b86 (fun _ => rfl) (by rw [lat86]; exact (List.forall_mem_cons.2 ⟨(fun L h => by rw [show env86.lp 86 (firstRegion c86_2) = some ls86_2 by kernel_rfl] at h; cases h; exact ok86_2), (fun _ h => absurd h List.not_mem_nil)⟩))
theorem env86_ok : EnvOk env86 := envOf2_ok tok mixed noGor (sg := []) (fun _ h => absurd h List.not_mem_nil) [86] (by kernel_rfl) (by kernel_rfl) (List.forall_mem_cons.2 ⟨⟨Try.f86, b86, by kernel_rfl, by kernel_rfl, lok86⟩, (fun _ h => absurd h List.not_mem_nil)⟩) rf_ok chk_ok (hx := (List.forall_mem_cons.2 ⟨sum62_ok, (List.forall_mem_cons.2 ⟨sum63_ok, (List.forall_mem_cons.2 ⟨sum67_ok, (fun _ h => absurd h List.not_mem_nil)⟩)⟩)⟩))
theorem sum86_ok : SumBOk Try.prog 86 sum86 := sumB_of_run env86_ok fun x y z h => (run86 (x.1) (x.2.1)).trans h

/-! ### (*quillwort/rules.reader).compound -/
def fn68 (x0 : List UInt8) (x1 : Bool) (x2 : Int) : Option (((List UInt8) × Bool × Unit) × (Unit)) :=
  bif (eqI x2 9) then
    obind (fn67 x0 x1 [[123]]) fun y0 =>
      obind (fn80 y0.1.1 y0.1.2.1) fun y1 =>
        obind (fn67 y1.1.1 y1.1.2.1 [[125]]) fun y2 =>
          obind (fn81 y2.1.1 y2.1.2.1) fun y3 =>
            some ((y3.1.1, (y3.1.2.1, ())), ())
  else
  bif (eqI x2 10) then
    obind (fn67 x0 x1 [[40]]) fun y0 =>
      obind (fn80 y0.1.1 y0.1.2.1) fun y1 =>
        obind (fn67 y1.1.1 y1.1.2.1 [[41]]) fun y2 =>
          obind (fn81 y2.1.1 y2.1.2.1) fun y3 =>
            some ((y3.1.1, (y3.1.2.1, ())), ())
  else
  bif (eqI x2 11) then
    obind (fn82 x0 x1) fun y0 =>
      some ((y0.1.1, (y0.1.2.1, ())), ())
  else
  bif (eqI x2 12) then
    obind (fn67 x0 x1 [[119]]) fun y0 =>
      obind (fn80 y0.1.1 y0.1.2.1) fun y1 =>
        obind (fn83 y1.1.1 y1.1.2.1) fun y2 =>
          some ((y2.1.1, (y2.1.2.1, ())), ())
  else
  bif (eqI x2 13) then
    obind (fn84 x0 x1) fun y0 =>
      some ((y0.1.1, (y0.1.2.1, ())), ())
  else
  bif (eqI x2 14) then
    obind (fn85 x0 x1) fun y0 =>
      some ((y0.1.1, (y0.1.2.1, ())), ())
  else
  bif (eqI x2 15) then
    obind (fn86 x0 x1) fun y0 =>
      some ((y0.1.1, (y0.1.2.1, ())), ())
  else
  bif (eqI x2 16) then
    obind (fn67 x0 x1 [[87], [40], [41]]) fun y0 =>
      obind (fn62 y0.1.1 y0.1.2.1 [110]) fun y1 =>
        obind (fn67 y1.1.1 y1.1.2.1 [[66, 85, 70, 72, 79, 67]]) fun y2 =>
          some ((y2.1.1, (y2.1.2.1, ())), ())
  else
  some ((x0, (true, ())), ())
def sum68 : SumB := (⟨72, [(.str, false), (.bool, false)], [.int .i64], [], fun x y => fn68 x.1 x.2.1 y.1⟩ : SumB)
noncomputable def env68 : Env := envOf2 Try.prog tt [] [] [] [] [(62, sum62), (67, sum67), (80, sum80), (81, sum81), (82, sum82), (83, sum83), (84, sum84), (85, sum85), (86, sum86)]
theorem run68 (x0 : List UInt8) (x1 : Bool) (x2 : Int) : runB env68 68 72 [(.str, false), (.bool, false)] [.int .i64] [] (x0, x1, ()) (x2, ()) = fn68 x0 x1 x2 := by kernel_rfl
theorem env68_ok : EnvOk env68 := envOf2_ok tok mixed noGor (sg := []) (fun _ h => absurd h List.not_mem_nil) [] (by kernel_rfl) (by kernel_rfl) (fun _ h => absurd h List.not_mem_nil) rf_ok chk_ok (hx := (List.forall_mem_cons.2 ⟨sum62_ok, (List.forall_mem_cons.2 ⟨sum67_ok, (List.forall_mem_cons.2 ⟨sum80_ok, (List.forall_mem_cons.2 ⟨sum81_ok, (List.forall_mem_cons.2 ⟨sum82_ok, (List.forall_mem_cons.2 ⟨sum83_ok, (List.forall_mem_cons.2 ⟨sum84_ok, (List.forall_mem_cons.2 ⟨sum85_ok, (List.forall_mem_cons.2 ⟨sum86_ok, (fun _ h => absurd h List.not_mem_nil)⟩)⟩)⟩)⟩)⟩)⟩)⟩)⟩)⟩))
theorem sum68_ok : SumBOk Try.prog 68 sum68 := sumB_of_run env68_ok fun x y z h => (run68 (x.1) (x.2.1) (y.1)).trans h

/-! ### quillwort/rules.of -/
def fn53 (x0 : Int) (x1 : List UInt8) : Option (Bool × Unit) :=
  bif (eqI x0 1) then
    obind (fn62 x1 false [110]) fun y0 =>
      obind (fn63 y0.1.1 y0.1.2.1 [76]) fun y1 =>
        bif (!y1.1.2.1) then
          some ((eqS y1.1.1 []), ())
        else
        some (false, ())
  else
  bif (eqI x0 2) then
    obind (fn64 x1 false) fun y0 =>
      bif (!y0.1.2.1) then
        some ((eqS y0.1.1 []), ())
      else
      some (false, ())
  else
  bif (eqI x0 3) then
    obind (fn65 x1 false [73] [97, 111]) fun y0 =>
      bif (!y0.1.2.1) then
        some ((eqS y0.1.1 []), ())
      else
      some (false, ())
  else
  bif (eqI x0 4) then
    obind (fn63 x1 false [33]) fun y0 =>
      obind (fn65 y0.1.1 y0.1.2.1 [83, 66, 85, 70, 72, 79, 67, 78] [124]) fun y1 =>
        bif (!y1.1.2.1) then
          some ((eqS y1.1.1 []), ())
        else
        some (false, ())
  else
  bif (eqI x0 5) then
    obind (fn66 x1 false) fun y0 =>
      bif (!y0.1.2.1) then
        some ((eqS y0.1.1 []), ())
      else
      some (false, ())
  else
  bif (eqI x0 8) then
    obind (fn63 x1 false [35]) fun y0 =>
      obind (fn67 y0.1.1 y0.1.2.1 [[60], [87]]) fun y1 =>
        bif (!y1.1.2.1) then
          some ((eqS y1.1.1 []), ())
        else
        some (false, ())
  else
  obind (fn68 x1 false x0) fun y0 =>
    bif (!y0.1.2.1) then
      some ((eqS y0.1.1 []), ())
    else
    some (false, ())
def sum53 : Sum := (⟨[.int .i64, .str], [(.bool, false)], fun x => fn53 x.1 x.2.1⟩ : Sum)
noncomputable def env53 : Env := envOf Try.prog tt 53 [] [] [] [(62, sum62), (63, sum63), (64, sum64), (65, sum65), (66, sum66), (67, sum67), (68, sum68)]
theorem run53 (x0 : Int) (x1 : List UInt8) : runF env53 53 [.int .i64, .str] [(.bool, false)] (x0, x1, ()) = fn53 x0 x1 := by kernel_rfl
theorem env53_ok : EnvOk env53 := envOf_ok tok mixed noGor (sg := []) (fun _ h => absurd h List.not_mem_nil) (fn := Try.f53) (c := (Try.f53.body).getD .skip) (by kernel_rfl) (by kernel_rfl) (loopsOk_none (fun _ => rfl) (fun _ => rfl) _) rf_ok chk_ok (hx := (List.forall_mem_cons.2 ⟨sum62_ok, (List.forall_mem_cons.2 ⟨sum63_ok, (List.forall_mem_cons.2 ⟨sum64_ok, (List.forall_mem_cons.2 ⟨sum65_ok, (List.forall_mem_cons.2 ⟨sum66_ok, (List.forall_mem_cons.2 ⟨sum67_ok, (List.forall_mem_cons.2 ⟨sum68_ok, (fun _ h => absurd h List.not_mem_nil)⟩)⟩)⟩)⟩)⟩)⟩)⟩))
theorem sum53_ok : SumOk Try.prog 53 sum53 := sum_of_run env53_ok (by decide) fun x y h => (run53 (x.1) (x.2.1)).trans h

/-! ### quillwort/oper.short -/
def fn77 (x0 : Int) : Option ((List UInt8) × Unit) :=
  bif (eqI x0 10) then
    some ([62, 124], ())
  else
  bif (eqI x0 11) then
    some ([60], ())
  else
  bif (eqI x0 12) then
    some ([62], ())
  else
  bif (eqI x0 13) then
    some ([38], ())
  else
  bif (eqI x0 14) then
    some ([59], ())
  else
  bif (eqI x0 15) then
    some ([124], ())
  else
  bif (eqI x0 16) then
    some ([40], ())
  else
  bif (eqI x0 17) then
    some ([41], ())
  else
  some ([], ())
def sum77 : Sum := (⟨[.int .i64], [(.str, false)], fun x => fn77 x.1⟩ : Sum)
noncomputable def env77 : Env := envOf Try.prog tt 77 [] [] []
theorem run77 (x0 : Int) : runF env77 77 [.int .i64] [(.str, false)] (x0, ()) = fn77 x0 := by kernel_rfl
theorem env77_ok : EnvOk env77 := envOf_ok tok mixed noGor (sg := []) (fun _ h => absurd h List.not_mem_nil) (fn := Try.f77) (c := (Try.f77.body).getD .skip) (by kernel_rfl) (by kernel_rfl) (loopsOk_none (fun _ => rfl) (fun _ => rfl) _) rf_ok chk_ok
theorem sum77_ok : SumOk Try.prog 77 sum77 := sum_of_run env77_ok (by decide) fun x y h => (run77 (x.1)).trans h

/-! ### quillwort/oper.Text -/
def fn59 (x0 : Int) : Option ((List UInt8) × Unit) :=
  bif (eqI x0 1) then
    some ([38, 38], ())
  else
  bif (eqI x0 2) then
    some ([124, 124], ())
  else
  bif (eqI x0 3) then
    some ([59, 59], ())
  else
  bif (eqI x0 4) then
    some ([60, 60], ())
  else
  bif (eqI x0 5) then
    some ([60, 60, 45], ())
  else
  bif (eqI x0 6) then
    some ([62, 62], ())
  else
  bif (eqI x0 7) then
    some ([60, 38], ())
  else
  bif (eqI x0 8) then
    some ([62, 38], ())
  else
  bif (eqI x0 9) then
    some ([60, 62], ())
  else
  obind (fn77 x0) fun y0 =>
    some (y0.1, ())
def sum59 : Sum := (⟨[.int .i64], [(.str, false)], fun x => fn59 x.1⟩ : Sum)
noncomputable def env59 : Env := envOf Try.prog tt 59 [(77, sum77)] [] []
theorem run59 (x0 : Int) : runF env59 59 [.int .i64] [(.str, false)] (x0, ()) = fn59 x0 := by kernel_rfl
theorem env59_ok : EnvOk env59 := envOf_ok tok mixed noGor (sg := [(77, sum77)]) (List.forall_mem_cons.2 ⟨(sum77_ok), (fun _ h => absurd h List.not_mem_nil)⟩) (fn := Try.f59) (c := (Try.f59.body).getD .skip) (by kernel_rfl) (by kernel_rfl) (loopsOk_none (fun _ => rfl) (fun _ => rfl) _) rf_ok chk_ok
theorem sum59_ok : SumOk Try.prog 59 sum59 := sum_of_run env59_ok (by decide) fun x y h => (run59 (x.1)).trans h

/-! ### quillwort/oper.Of -/
noncomputable def b40 : Code := (Try.f40.body).getD .skip
noncomputable def c40_4 : Code := cA (cA (cB (cA (cB (cB (b40))))))
def k40_4 : Keep := ⟨[0, 3, 100004], [], [], [], [2], []⟩
def p40_4 : SP := ⟨us [.v .str, .u, .u, .v (.int .i64)] 11, []⟩
def pa40_4 : SP := ⟨us [] 15, []⟩
def pb40_4 : SP := ⟨us [.u, .u, .v (.int .i64)] 12, []⟩
def st40_4 {γ : Type} (rec : (List UInt8) → Int → Option γ) (kE : Option γ) (kR : Int → Option γ) (v0 : List UInt8) (v1 : Int) : Option γ :=
  bif (leI v1 17) then
    obind (fn59 v1) fun y0 =>
      bif (eqS y0.1 v0) then
        kR v1
      else
      rec v0 (addK .i64 v1 1)
  else
  kE 
def lp40_4 : Nat → (List UInt8) → Int → Option (pa40_4.den ⊕ pb40_4.den)
  | 0, _, _ => none
  | n + 1, v0, v1 => st40_4 (lp40_4 n) (some (.inl ((), ()))) (fun r0 => some (.inr ((r0, ()), ()))) v0 v1
noncomputable def ls40_4 : LoopSum := loopBy k40_4 p40_4 pa40_4 pb40_4 (.exit 0) (fun v => lp40_4 fuelN v.1.1 v.1.2.1) 6
def fn40 (x0 : List UInt8) : Option (Int × Unit) :=
  bif (eqS x0 []) then
    some (0, ())
  else
  obind (lp40_4 fuelN x0 1) fun y0 =>
    osum y0 (fun a1 =>
      some (0, ())) (fun b1 =>
      some (b1.1.1, ()))
def sum40 : Sum := (⟨[.str], [(.int .i64, false)], fun x => fn40 x.1⟩ : Sum)
noncomputable def env40 : Env := envOf Try.prog tt 40 [(59, sum59)] [(4, k40_4)] [(4, ls40_4)]
theorem step40_4 {R : Type} (d : Nat) (n : Nat) (K : Ex → St → Option R) (v0 : List UInt8) (v1 : Int) :
    iter (some k40_4) (runD env40 (d + 6) 40 c40_4) (n + 1) (mkSt p40_4 ((v0, v1, ()), ())) K =
      st40_4 (fun v0 v1 => iter (some k40_4) (runD env40 (d + 6) 40 c40_4) n (mkSt p40_4 ((v0, v1, ()), ())) K) (K (.exit 0) (mkSt pa40_4 ((), ()))) (fun r0 => K .ret (mkSt pb40_4 ((r0, ()), ()))) v0 v1 := by kernel_rfl
theorem it40_4 {R : Type} (d : Nat) (K : Ex → St → Option R) : ∀ (n : Nat) (v0 : List UInt8) (v1 : Int),
    iter (some k40_4) (runD env40 (d + 6) 40 c40_4) n (mkSt p40_4 ((v0, v1, ()), ())) K = obind (lp40_4 n v0 v1) fun o => osum o (fun a => K (.exit 0) (mkSt pa40_4 a)) fun b => K .ret (mkSt pb40_4 b)
  | 0, _, _ => rfl
  | n + 1, v0, v1 => by
    rw [step40_4]
    simp only [it40_4 d K n, lp40_4, st40_4, obind_cond, obind_none, obind_some, obind_obind, obind_osum]
    try simp only [osum]
theorem ok40_4 : LoopOk env40 40 c40_4 ls40_4 := loopBy_ok (by kernel_rfl) fun R d K v o h => ⟨fuelN, (it40_4 d K fuelN (v.1.1) (v.1.2.1)).trans (congrArg (fun o => obind o _) h)⟩
theorem run40 (x0 : List UInt8) : runF env40 40 [.str] [(.int .i64, false)] (x0, ()) = fn40 x0 := by kernel_rfl
theorem lat40 : loopsAt b40 = [c40_4] := by kernel_rfl
theorem lok40 : loopsOk env40 40 b40 := loopsOk_at b40 (fun _ => rfl) (by rw [lat40]; exact (List.forall_mem_cons.2 ⟨(fun L h => by rw [show env40.lp 40 (firstRegion c40_4) = some ls40_4 by kernel_rfl] at h; cases h; exact ok40_4), (fun _ h => absurd h List.not_mem_nil)⟩))
theorem env40_ok : EnvOk env40 := envOf_ok tok mixed noGor (sg := [(59, sum59)]) (List.forall_mem_cons.2 ⟨(sum59_ok), (fun _ h => absurd h List.not_mem_nil)⟩) (fn := Try.f40) (c := b40) (by kernel_rfl) (by kernel_rfl) lok40 rf_ok chk_ok
theorem sum40_ok : SumOk Try.prog 40 sum40 := sum_of_run env40_ok (by decide) fun x y h => (run40 (x.1)).trans h

/-! ### quillwort/oper.Redirects -/
def fn41 (x0 : Int) : Option (Bool × Unit) :=
  bif (leI 4 x0) then
    some ((leI x0 12), ())
  else
  some (false, ())
def sum41 : Sum := (⟨[.int .i64], [(.bool, false)], fun x => fn41 x.1⟩ : Sum)
noncomputable def env41 : Env := envOf Try.prog tt 41 [] [] []
theorem run41 (x0 : Int) : runF env41 41 [.int .i64] [(.bool, false)] (x0, ()) = fn41 x0 := by kernel_rfl
theorem env41_ok : EnvOk env41 := envOf_ok tok mixed noGor (sg := []) (fun _ h => absurd h List.not_mem_nil) (fn := Try.f41) (c := (Try.f41.body).getD .skip) (by kernel_rfl) (by kernel_rfl) (loopsOk_none (fun _ => rfl) (fun _ => rfl) _) rf_ok chk_ok
theorem sum41_ok : SumOk Try.prog 41 sum41 := sum_of_run env41_ok (by decide) fun x y h => (run41 (x.1)).trans h

/-! ### quillwort/rules.operator -/
def fn26 (x0 : List UInt8) : Option (Int × Unit) :=
  obind (fn40 x0) fun y0 =>
    bif (eqI y0.1 1) then
      some (97, ())
    else
    bif (eqI y0.1 2) then
      some (111, ())
    else
    bif (eqI y0.1 3) then
      some (121, ())
    else
    obind (fn41 y0.1) fun y1 =>
      bif y1.1 then
        some (60, ())
      else
      bif (!(eqI y0.1 0)) then
        bif (inI x0 0) then
          some ((byteAt x0 0), ())
        else
        none
      else
      some (63, ())
def sum26 : Sum := (⟨[.str], [(.int .u8, false)], fun x => fn26 x.1⟩ : Sum)
noncomputable def env26 : Env := envOf Try.prog tt 26 [(40, sum40), (41, sum41)] [] []
theorem run26 (x0 : List UInt8) : runF env26 26 [.str] [(.int .u8, false)] (x0, ()) = fn26 x0 := by kernel_rfl
theorem env26_ok : EnvOk env26 := envOf_ok tok mixed noGor (sg := [(40, sum40), (41, sum41)]) (List.forall_mem_cons.2 ⟨(sum40_ok), (List.forall_mem_cons.2 ⟨(sum41_ok), (fun _ h => absurd h List.not_mem_nil)⟩)⟩) (fn := Try.f26) (c := (Try.f26.body).getD .skip) (by kernel_rfl) (by kernel_rfl) (loopsOk_none (fun _ => rfl) (fun _ => rfl) _) rf_ok chk_ok
theorem sum26_ok : SumOk Try.prog 26 sum26 := sum_of_run env26_ok (by decide) fun x y h => (run26 (x.1)).trans h

/-! ### quillwort/rules.word -/
def fn27 (x0 : List UInt8) : Option (Int × Unit) :=
  bif (eqS x0 [33]) then
    bif (eqS x0 [33]) then
      bif (inI x0 0) then
        some ((byteAt x0 0), ())
      else
      none
    else
    bif (eqS x0 [105, 102]) then
      some (105, ())
    else
    bif (eqS x0 [116, 104, 101, 110]) then
      some (116, ())
    else
    bif (eqS x0 [101, 108, 105, 102]) then
      some (101, ())
    else
    bif (eqS x0 [101, 108, 115, 101]) then
      some (108, ())
    else
    bif (eqS x0 [102, 105]) then
      some (102, ())
    else
    bif (eqS x0 [119, 104, 105, 108, 101]) then
      bif (eqS x0 [119, 104, 105, 108, 101]) then
        some (119, ())
      else
      bif (eqS x0 [100, 111]) then
        some (100, ())
      else
      bif (eqS x0 [100, 111, 110, 101]) then
        some (103, ())
      else
      bif (eqS x0 [102, 111, 114]) then
        some (114, ())
      else
      bif (eqS x0 [105, 110]) then
        some (107, ())
      else
      bif (eqS x0 [99, 97, 115, 101]) then
        some (99, ())
      else
      bif (eqS x0 [101, 115, 97, 99]) then
        some (122, ())
      else
      some (120, ())
    else
    bif (eqS x0 [117, 110, 116, 105, 108]) then
      some (119, ())
    else
    bif (eqS x0 [100, 111]) then
      some (100, ())
    else
    bif (eqS x0 [100, 111, 110, 101]) then
      some (103, ())
    else
    bif (eqS x0 [102, 111, 114]) then
      some (114, ())
    else
    bif (eqS x0 [105, 110]) then
      some (107, ())
    else
    bif (eqS x0 [99, 97, 115, 101]) then
      some (99, ())
    else
    bif (eqS x0 [101, 115, 97, 99]) then
      some (122, ())
    else
    some (120, ())
  else
  bif (eqS x0 [123]) then
    bif (eqS x0 [123]) then
      bif (inI x0 0) then
        some ((byteAt x0 0), ())
      else
      none
    else
    bif (eqS x0 [105, 102]) then
      some (105, ())
    else
    bif (eqS x0 [116, 104, 101, 110]) then
      some (116, ())
    else
    bif (eqS x0 [101, 108, 105, 102]) then
      some (101, ())
    else
    bif (eqS x0 [101, 108, 115, 101]) then
      some (108, ())
    else
    bif (eqS x0 [102, 105]) then
      some (102, ())
    else
    bif (eqS x0 [119, 104, 105, 108, 101]) then
      bif (eqS x0 [119, 104, 105, 108, 101]) then
        some (119, ())
      else
      bif (eqS x0 [100, 111]) then
        some (100, ())
      else
      bif (eqS x0 [100, 111, 110, 101]) then
        some (103, ())
      else
      bif (eqS x0 [102, 111, 114]) then
        some (114, ())
      else
      bif (eqS x0 [105, 110]) then
        some (107, ())
      else
      bif (eqS x0 [99, 97, 115, 101]) then
        some (99, ())
      else
      bif (eqS x0 [101, 115, 97, 99]) then
        some (122, ())
      else
      some (120, ())
    else
    bif (eqS x0 [117, 110, 116, 105, 108]) then
      some (119, ())
    else
    bif (eqS x0 [100, 111]) then
      some (100, ())
    else
    bif (eqS x0 [100, 111, 110, 101]) then
      some (103, ())
    else
    bif (eqS x0 [102, 111, 114]) then
      some (114, ())
    else
    bif (eqS x0 [105, 110]) then
      some (107, ())
    else
    bif (eqS x0 [99, 97, 115, 101]) then
      some (99, ())
    else
    bif (eqS x0 [101, 115, 97, 99]) then
      some (122, ())
    else
    some (120, ())
  else
  bif (eqS x0 [125]) then
    bif (inI x0 0) then
      some ((byteAt x0 0), ())
    else
    none
  else
  bif (eqS x0 [105, 102]) then
    some (105, ())
  else
  bif (eqS x0 [116, 104, 101, 110]) then
    some (116, ())
  else
  bif (eqS x0 [101, 108, 105, 102]) then
    some (101, ())
  else
  bif (eqS x0 [101, 108, 115, 101]) then
    some (108, ())
  else
  bif (eqS x0 [102, 105]) then
    some (102, ())
  else
  bif (eqS x0 [119, 104, 105, 108, 101]) then
    bif (eqS x0 [119, 104, 105, 108, 101]) then
      some (119, ())
    else
    bif (eqS x0 [100, 111]) then
      some (100, ())
    else
    bif (eqS x0 [100, 111, 110, 101]) then
      some (103, ())
    else
    bif (eqS x0 [102, 111, 114]) then
      some (114, ())
    else
    bif (eqS x0 [105, 110]) then
      some (107, ())
    else
    bif (eqS x0 [99, 97, 115, 101]) then
      some (99, ())
    else
    bif (eqS x0 [101, 115, 97, 99]) then
      some (122, ())
    else
    some (120, ())
  else
  bif (eqS x0 [117, 110, 116, 105, 108]) then
    some (119, ())
  else
  bif (eqS x0 [100, 111]) then
    some (100, ())
  else
  bif (eqS x0 [100, 111, 110, 101]) then
    some (103, ())
  else
  bif (eqS x0 [102, 111, 114]) then
    some (114, ())
  else
  bif (eqS x0 [105, 110]) then
    some (107, ())
  else
  bif (eqS x0 [99, 97, 115, 101]) then
    some (99, ())
  else
  bif (eqS x0 [101, 115, 97, 99]) then
    some (122, ())
  else
  some (120, ())
def sum27 : Sum := (⟨[.str], [(.int .u8, false)], fun x => fn27 x.1⟩ : Sum)
noncomputable def env27 : Env := envOf Try.prog tt 27 [] [] []
theorem run27 (x0 : List UInt8) : runF env27 27 [.str] [(.int .u8, false)] (x0, ()) = fn27 x0 := by kernel_rfl
theorem env27_ok : EnvOk env27 := envOf_ok tok mixed noGor (sg := []) (fun _ h => absurd h List.not_mem_nil) (fn := Try.f27) (c := (Try.f27.body).getD .skip) (by kernel_rfl) (by kernel_rfl) (loopsOk_none (fun _ => rfl) (fun _ => rfl) _) rf_ok chk_ok
theorem sum27_ok : SumOk Try.prog 27 sum27 := sum_of_run env27_ok (by decide) fun x y h => (run27 (x.1)).trans h

/-! ### quillwort/rules.Sign -/
def fn10 (x0 : Int × (List UInt8) × (Int × Int × Unit)) : Option (Int × Unit) :=
  bif (eqI x0.1 2) then
    some (110, ())
  else
  bif (eqI x0.1 4) then
    obind (fn26 x0.2.1) fun y0 =>
      some (y0.1, ())
  else
  bif (eqI x0.1 5) then
    some (35, ())
  else
  bif (eqI x0.1 6) then
    obind (fn27 x0.2.1) fun y0 =>
      some (y0.1, ())
  else
  some (63, ())
def sum10 : Sum := (⟨[.pair (.int .i64) (.pair .str (.pair (.int .i64) (.pair (.int .i64) .unit)))], [(.int .u8, false)], fun x => fn10 x.1⟩ : Sum)
noncomputable def env10 : Env := envOf Try.prog tt 10 [(26, sum26), (27, sum27)] [] []
theorem run10 (x0 : Int × (List UInt8) × (Int × Int × Unit)) : runF env10 10 [.pair (.int .i64) (.pair .str (.pair (.int .i64) (.pair (.int .i64) .unit)))] [(.int .u8, false)] (x0, ()) = fn10 x0 := by kernel_rfl
theorem env10_ok : EnvOk env10 := envOf_ok tok mixed noGor (sg := [(26, sum26), (27, sum27)]) (List.forall_mem_cons.2 ⟨(sum26_ok), (List.forall_mem_cons.2 ⟨(sum27_ok), (fun _ h => absurd h List.not_mem_nil)⟩)⟩) (fn := Try.f10) (c := (Try.f10.body).getD .skip) (by kernel_rfl) (by kernel_rfl) (loopsOk_none (fun _ => rfl) (fun _ => rfl) _) rf_ok chk_ok
theorem sum10_ok : SumOk Try.prog 10 sum10 := sum_of_run env10_ok (by decide) fun x y h => (run10 (x.1)).trans h

/-! ### quillwort/rules.rowOf -/
noncomputable def b54 : Code := (Try.f54.body).getD .skip
noncomputable def b54_87 : Code := (Try.f87.body).getD .skip
noncomputable def c54_87_4 : Code := cA (cA (cA (cB (cA (cA (cB (cB (cA (cA (cB (cA (cB (b54_87)))))))))))))
noncomputable def c54_87_2 : Code := cA (cA (cB (cA (cB (b54_87)))))
noncomputable def c54_87_10 : Code := cA (cA (cB (cB (b54_87))))
def k54_87_4 : Keep := ⟨[0, 1, 2, 3, 5, 7, 15, 16, 17, 88000004], [], [0, 1, 2, 3, 7, 15, 16, 17], [], [], []⟩
def k54_87_2 : Keep := ⟨[0, 1, 2, 3, 5, 15, 16, 17, 88000002], [], [0, 1, 2, 3, 5], [], [], []⟩
def k54_87_10 : Keep := ⟨[0, 1, 2, 3, 5, 88000010], [], [], [], [], []⟩
def kr54_4 : Keep := ⟨[6, 7], [], [], [], [], []⟩
def p54_87_4 : SQ := ⟨us [.yld 1700013, .ptr 2000004 0, .ptr 2000005 0, .ptr 2000003 0, .u, .v (.int .i64), .u, .v (.int .i64), .u, .u, .u, .u, .u, .u, .u, .v (.list (.int .i64)), .v (.int .i64), .v (.int .i64)] 52, [us [.u, .u, .u, .u, .u, .u, .v .str, .ptr 1000007 0] 9, [.yld 1700013], []], [.lp 1700013 54 (us [.u, .u, .u, .u, .u, .u, .v .str, .ptr 1000007 0] 9) [13] 4 0 none, .box 2000005 3 [.v (.int .i64)], .box 2000004 30 [.v (.list (.pair (.int .i64) (.pair (.int .i64) (.pair (.int .i64) (.pair (.int .i64) .unit)))))], .box 2000003 29 [.v (.list (.pair (.int .i64) (.pair .str (.pair (.int .i64) (.pair (.int .i64) .unit)))))], .box 1000007 79 [.slf 1000007, .slc 1500007], .arr 1500007 (.int .u8)]⟩
def pa54_87_4 : SQ := ⟨us [.yld 1700013, .ptr 2000004 0, .ptr 2000005 0, .ptr 2000003 0, .u, .u, .u, .v (.int .i64), .u, .u, .u, .u, .u, .u, .u, .v (.list (.int .i64)), .v (.int .i64), .v (.int .i64)] 52, [us [.u, .u, .u, .u, .u, .u, .v .str, .ptr 1000007 0] 9, [.yld 1700013], []], [.lp 1700013 54 (us [.u, .u, .u, .u, .u, .u, .v .str, .ptr 1000007 0] 9) [13] 4 0 none, .box 2000005 3 [.v (.int .i64)], .box 2000004 30 [.v (.list (.pair (.int .i64) (.pair (.int .i64) (.pair (.int .i64) (.pair (.int .i64) .unit)))))], .box 2000003 29 [.v (.list (.pair (.int .i64) (.pair .str (.pair (.int .i64) (.pair (.int .i64) .unit)))))], .box 1000007 79 [.slf 1000007, .slc 1500007], .arr 1500007 (.int .u8)]⟩
def pb54_87_4 : SQ := ⟨us [] 70, [us [.u, .u, .u, .u, .u, .u, .v .str, .ptr 1000007 0] 9, [.yld 1700013], []], []⟩
def st54_87_4 {γ : Type} (rec : Int → Int → (List (Int)) → Int → Int → (List UInt8) → (List UInt8) → Int → (List (Int × Int × Int × Int × Unit)) → (List (Int × (List UInt8) × (Int × Int × Unit))) → (List (Int)) → Option γ) (kE : Int → (List (Int)) → Int → Int → (List UInt8) → (List UInt8) → Int → (List (Int × Int × Int × Int × Unit)) → (List (Int × (List UInt8) × (Int × Int × Unit))) → (List (Int)) → Option γ) (kR : (List UInt8) → Option γ) (v0 : Int) (v1 : Int) (v2 : List (Int)) (v3 : Int) (v4 : Int) (v5 : List UInt8) (v6 : List UInt8) (v7 : Int) (v8 : List (Int × Int × Int × Int × Unit)) (v9 : List (Int × (List UInt8) × (Int × Int × Unit))) (v10 : List (Int)) : Option γ :=
  bif (inI v8 v1) then
    bif (ltI v0 (getI v8 (0, (0, (0, (0, ())))) v1).2.1) then
      bif (inI v9 v0) then
        obind (fn10 (getI v9 (0, ([], (0, (0, ())))) v0)) fun y0 =>
          bif (fitI (catL v10 [y0.1]) 1) then
            rec (addK .i64 v0 1) v1 v2 v3 v4 v5 v6 v7 v8 v9 (catL v10 [y0.1])
          else
          none
      else
      none
    else
    kE v1 v2 v3 v4 v5 v6 v7 v8 v9 v10
  else
  none
def lp54_87_4 : Nat → Int → Int → (List (Int)) → Int → Int → (List UInt8) → (List UInt8) → Int → (List (Int × Int × Int × Int × Unit)) → (List (Int × (List UInt8) × (Int × Int × Unit))) → (List (Int)) → Option (pa54_87_4.den ⊕ pb54_87_4.den)
  | 0, _, _, _, _, _, _, _, _, _, _, _ => none
  | n + 1, v0, v1, v2, v3, v4, v5, v6, v7, v8, v9, v10 => st54_87_4 (lp54_87_4 n) (fun e0 e1 e2 e3 e4 e5 e6 e7 e8 e9 => some (.inl ((e0, e1, e2, e3, ()), ((e4, ()), (), (), ()), ((e5, ()), (e6, ()), (e7, ()), (e8, ()), (), e9, ())))) (fun r0 => some (.inr ((), ((r0, ()), (), (), ()), ()))) v0 v1 v2 v3 v4 v5 v6 v7 v8 v9 v10
noncomputable def ls54_87_4 : LoopSum := loopBy2 k54_87_4 p54_87_4 pa54_87_4 pb54_87_4 (.exit 2) (fun v => lp54_87_4 fuelN v.1.1 v.1.2.1 v.1.2.2.1 v.1.2.2.2.1 v.1.2.2.2.2.1 v.2.1.1.1 v.2.2.1.1 v.2.2.2.1.1 v.2.2.2.2.1.1 v.2.2.2.2.2.1.1 v.2.2.2.2.2.2.2.1) 6
def p54_87_2 : SQ := ⟨us [.yld 1700013, .ptr 2000004 0, .ptr 2000005 0, .ptr 2000003 0, .u, .v (.int .i64), .u, .u, .u, .u, .u, .u, .u, .u, .u, .v (.list (.int .i64)), .v (.int .i64), .v (.int .i64)] 52, [us [.u, .u, .u, .u, .u, .u, .v .str, .ptr 1000007 0] 9, [.yld 1700013], []], [.lp 1700013 54 (us [.u, .u, .u, .u, .u, .u, .v .str, .ptr 1000007 0] 9) [13] 4 0 none, .box 2000005 3 [.v (.int .i64)], .box 2000004 30 [.v (.list (.pair (.int .i64) (.pair (.int .i64) (.pair (.int .i64) (.pair (.int .i64) .unit)))))], .box 2000003 29 [.v (.list (.pair (.int .i64) (.pair .str (.pair (.int .i64) (.pair (.int .i64) .unit)))))], .box 1000007 79 [.slf 1000007, .slc 1500007], .arr 1500007 (.int .u8)]⟩
def pa54_87_2 : SQ := ⟨us [.yld 1700013, .ptr 2000004 0, .ptr 2000005 0, .ptr 2000003 0, .u, .v (.int .i64)] 64, [us [.u, .u, .u, .u, .u, .u, .v .str, .ptr 1000007 0] 9, [.yld 1700013], []], [.lp 1700013 54 (us [.u, .u, .u, .u, .u, .u, .v .str, .ptr 1000007 0] 9) [13] 4 0 none, .box 2000005 3 [.v (.int .i64)], .box 2000004 30 [.v (.list (.pair (.int .i64) (.pair (.int .i64) (.pair (.int .i64) (.pair (.int .i64) .unit)))))], .box 2000003 29 [.v (.list (.pair (.int .i64) (.pair .str (.pair (.int .i64) (.pair (.int .i64) .unit)))))], .box 1000007 79 [.slf 1000007, .slc 1500007], .arr 1500007 (.int .u8)]⟩
def pb54_87_2 : SQ := ⟨us [] 70, [us [.u, .u, .u, .u, .u, .u, .v .str, .ptr 1000007 0] 9, [.yld 1700013], []], []⟩
def st54_87_2 {γ : Type} (rec : Int → (List (Int)) → Int → Int → (List UInt8) → (List UInt8) → Int → (List (Int × Int × Int × Int × Unit)) → (List (Int × (List UInt8) × (Int × Int × Unit))) → (List (Int)) → Option γ) (kE : Int → (List UInt8) → (List UInt8) → Int → (List (Int × Int × Int × Int × Unit)) → (List (Int × (List UInt8) × (Int × Int × Unit))) → (List (Int)) → Option γ) (kR : (List UInt8) → Option γ) (v0 : Int) (v1 : List (Int)) (v2 : Int) (v3 : Int) (v4 : List UInt8) (v5 : List UInt8) (v6 : Int) (v7 : List (Int × Int × Int × Int × Unit)) (v8 : List (Int × (List UInt8) × (Int × Int × Unit))) (v9 : List (Int)) : Option γ :=
  bif (ltI v3 v2) then
    bif (inI v1 v3) then
      obind (lp54_87_4 fuelN v0 (getI v1 0 v3) v1 v2 v3 v4 v5 v6 v7 v8 v9) fun y0 =>
        osum y0 (fun a1 =>
          bif (inI a1.2.2.2.2.1.1 a1.1.1) then
            bif (inI [63, 80, 76, 65, 73, 83, 88, 87, 82, 66, 85, 70, 72, 79, 67, 84, 78, 69, 77] (getI a1.2.2.2.2.1.1 (0, (0, (0, (0, ())))) a1.1.1).1) then
              bif (fitI (catL a1.2.2.2.2.2.2.2.1 [(byteAt [63, 80, 76, 65, 73, 83, 88, 87, 82, 66, 85, 70, 72, 79, 67, 84, 78, 69, 77] (getI a1.2.2.2.2.1.1 (0, (0, (0, (0, ())))) a1.1.1).1)]) 1) then
                bif (inI a1.2.2.2.2.1.1 a1.1.1) then
                  rec (getI a1.2.2.2.2.1.1 (0, (0, (0, (0, ())))) a1.1.1).2.2.1 a1.1.2.1 a1.1.2.2.1 (addK .i64 a1.1.2.2.2.1 1) a1.2.1.1.1 a1.2.2.1.1 a1.2.2.2.1.1 a1.2.2.2.2.1.1 a1.2.2.2.2.2.1.1 (catL a1.2.2.2.2.2.2.2.1 [(byteAt [63, 80, 76, 65, 73, 83, 88, 87, 82, 66, 85, 70, 72, 79, 67, 84, 78, 69, 77] (getI a1.2.2.2.2.1.1 (0, (0, (0, (0, ())))) a1.1.1).1)])
                else
                none
              else
              none
            else
            none
          else
          none) (fun b1 =>
          kR b1.2.1.1.1)
    else
    none
  else
  kE v0 v4 v5 v6 v7 v8 v9
def lp54_87_2 : Nat → Int → (List (Int)) → Int → Int → (List UInt8) → (List UInt8) → Int → (List (Int × Int × Int × Int × Unit)) → (List (Int × (List UInt8) × (Int × Int × Unit))) → (List (Int)) → Option (pa54_87_2.den ⊕ pb54_87_2.den)
  | 0, _, _, _, _, _, _, _, _, _, _ => none
  | n + 1, v0, v1, v2, v3, v4, v5, v6, v7, v8, v9 => st54_87_2 (lp54_87_2 n) (fun e0 e1 e2 e3 e4 e5 e6 => some (.inl ((e0, ()), ((e1, ()), (), (), ()), ((e2, ()), (e3, ()), (e4, ()), (e5, ()), (), e6, ())))) (fun r0 => some (.inr ((), ((r0, ()), (), (), ()), ()))) v0 v1 v2 v3 v4 v5 v6 v7 v8 v9
noncomputable def ls54_87_2 : LoopSum := loopBy2 k54_87_2 p54_87_2 pa54_87_2 pb54_87_2 (.exit 0) (fun v => lp54_87_2 fuelN v.1.1 v.1.2.1 v.1.2.2.1 v.1.2.2.2.1 v.2.1.1.1 v.2.2.1.1 v.2.2.2.1.1 v.2.2.2.2.1.1 v.2.2.2.2.2.1.1 v.2.2.2.2.2.2.2.1) 12
def p54_87_10 : SQ := ⟨us [.yld 1700013, .ptr 2000004 0, .ptr 2000005 0, .ptr 2000003 0, .u, .v (.int .i64)] 64, [us [.u, .u, .u, .u, .u, .u, .v .str, .ptr 1000007 0] 9, [.yld 1700013], []], [.lp 1700013 54 (us [.u, .u, .u, .u, .u, .u, .v .str, .ptr 1000007 0] 9) [13] 4 0 none, .box 2000005 3 [.v (.int .i64)], .box 2000004 30 [.v (.list (.pair (.int .i64) (.pair (.int .i64) (.pair (.int .i64) (.pair (.int .i64) .unit)))))], .box 2000003 29 [.v (.list (.pair (.int .i64) (.pair .str (.pair (.int .i64) (.pair (.int .i64) .unit)))))], .box 1000007 79 [.slf 1000007, .slc 1500007], .arr 1500007 (.int .u8)]⟩
def pa54_87_10 : SQ := ⟨us [] 70, [us [.u, .u, .u, .u, .u, .u, .v .str, .ptr 1000007 0] 9, [.yld 1700013], []], [.lp 1700013 54 (us [.u, .u, .u, .u, .u, .u, .v .str, .ptr 1000007 0] 9) [13] 4 0 none, .box 2000005 3 [.v (.int .i64)], .box 2000004 30 [.v (.list (.pair (.int .i64) (.pair (.int .i64) (.pair (.int .i64) (.pair (.int .i64) .unit)))))], .box 2000003 29 [.v (.list (.pair (.int .i64) (.pair .str (.pair (.int .i64) (.pair (.int .i64) .unit)))))], .box 1000007 79 [.slf 1000007, .slc 1500007], .arr 1500007 (.int .u8)]⟩
def pb54_87_10 : SQ := ⟨us [] 70, [us [.u, .u, .u, .u, .u, .u, .v .str, .ptr 1000007 0] 9, [.yld 1700013], []], []⟩
def st54_87_10 {γ : Type} (rec : Int → (List UInt8) → (List UInt8) → Int → (List (Int × Int × Int × Int × Unit)) → (List (Int × (List UInt8) × (Int × Int × Unit))) → (List (Int)) → Option γ) (kE : (List UInt8) → (List UInt8) → Int → (List (Int × Int × Int × Int × Unit)) → (List (Int × (List UInt8) × (Int × Int × Unit))) → (List (Int)) → Option γ) (kR : (List UInt8) → Option γ) (v0 : Int) (v1 : List UInt8) (v2 : List UInt8) (v3 : Int) (v4 : List (Int × Int × Int × Int × Unit)) (v5 : List (Int × (List UInt8) × (Int × Int × Unit))) (v6 : List (Int)) : Option γ :=
  bif (inI v4 v3) then
    bif (ltI v0 (getI v4 (0, (0, (0, (0, ())))) v3).2.2.1) then
      bif (inI v5 v0) then
        obind (fn10 (getI v5 (0, ([], (0, (0, ())))) v0)) fun y0 =>
          bif (fitI (catL v6 [y0.1]) 1) then
            rec (addK .i64 v0 1) v1 v2 v3 v4 v5 (catL v6 [y0.1])
          else
          none
      else
      none
    else
    kE v1 v2 v3 v4 v5 v6
  else
  none
def lp54_87_10 : Nat → Int → (List UInt8) → (List UInt8) → Int → (List (Int × Int × Int × Int × Unit)) → (List (Int × (List UInt8) × (Int × Int × Unit))) → (List (Int)) → Option (pa54_87_10.den ⊕ pb54_87_10.den)
  | 0, _, _, _, _, _, _, _ => none
  | n + 1, v0, v1, v2, v3, v4, v5, v6 => st54_87_10 (lp54_87_10 n) (fun e0 e1 e2 e3 e4 e5 => some (.inl ((), ((e0, ()), (), (), ()), ((e1, ()), (e2, ()), (e3, ()), (e4, ()), (), e5, ())))) (fun r0 => some (.inr ((), ((r0, ()), (), (), ()), ()))) v0 v1 v2 v3 v4 v5 v6
noncomputable def ls54_87_10 : LoopSum := loopBy2 k54_87_10 p54_87_10 pa54_87_10 pb54_87_10 (.exit 4) (fun v => lp54_87_10 fuelN v.1.1 v.2.1.1.1 v.2.2.1.1 v.2.2.2.1.1 v.2.2.2.2.1.1 v.2.2.2.2.2.1.1 v.2.2.2.2.2.2.2.1) 18
def fn54 (x0 : List (Int × (List UInt8) × (Int × Int × Unit))) (x1 : List (Int × Int × Int × Int × Unit)) (x2 : Int) : Option ((List UInt8) × Unit) :=
  bif (inI x1 x2) then
    obind (fn51 x1 x2) fun y0 =>
      obind (lp54_87_2 fuelN (getI x1 (0, (0, (0, (0, ())))) x2).2.1 y0.1 (lenI y0.1) 0 [] [] x2 x1 x0 []) fun y1 =>
        osum y1 (fun a2 =>
          obind (lp54_87_10 fuelN a2.1.1 a2.2.1.1.1 a2.2.2.1.1 a2.2.2.2.1.1 a2.2.2.2.2.1.1 a2.2.2.2.2.2.1.1 a2.2.2.2.2.2.2.2.1) fun y3 =>
            osum y3 (fun a4 =>
              bif (eqI (lenI a4.2.2.2.2.2.2.2.1) (lenI a4.2.2.2.2.2.2.2.1)) then
                some ((ofBytes a4.2.2.2.2.2.2.2.1), ())
              else
              none) (fun b4 =>
              none)) (fun b2 =>
          none)
  else
  none
def sum54 : Sum := (⟨[.list (.pair (.int .i64) (.pair .str (.pair (.int .i64) (.pair (.int .i64) .unit)))), .list (.pair (.int .i64) (.pair (.int .i64) (.pair (.int .i64) (.pair (.int .i64) .unit)))), .int .i64], [(.str, false)], fun x => fn54 x.1 x.2.1 x.2.2.1⟩ : Sum)
noncomputable def env54 : Env := envOf2 Try.prog tt [(10, sum10), (51, sum51)] [(87, 4, k54_87_4), (87, 2, k54_87_2), (87, 10, k54_87_10), (54, 500004, kr54_4)] [(87, 4, ls54_87_4), (87, 2, ls54_87_2), (87, 10, ls54_87_10)] [54]
theorem step54_87_4 {R : Type} (d : Nat) (n : Nat) (K : Ex → St → Option R) (v0 : Int) (v1 : Int) (v2 : List (Int)) (v3 : Int) (v4 : Int) (v5 : List UInt8) (v6 : List UInt8) (v7 : Int) (v8 : List (Int × Int × Int × Int × Unit)) (v9 : List (Int × (List UInt8) × (Int × Int × Unit))) (v10 : List (Int)) :
    iter (some k54_87_4) (runD env54 (d + 6) 87 c54_87_4) (n + 1) (mkSt2 p54_87_4 ((v0, v1, v2, v3, v4, ()), ((v5, ()), (), (), ()), ((v6, ()), (v7, ()), (v8, ()), (v9, ()), (), v10, ()))) K =
      st54_87_4 (fun v0 v1 v2 v3 v4 v5 v6 v7 v8 v9 v10 => iter (some k54_87_4) (runD env54 (d + 6) 87 c54_87_4) n (mkSt2 p54_87_4 ((v0, v1, v2, v3, v4, ()), ((v5, ()), (), (), ()), ((v6, ()), (v7, ()), (v8, ()), (v9, ()), (), v10, ()))) K) (fun e0 e1 e2 e3 e4 e5 e6 e7 e8 e9 => K (.exit 2) (mkSt2 pa54_87_4 ((e0, e1, e2, e3, ()), ((e4, ()), (), (), ()), ((e5, ()), (e6, ()), (e7, ()), (e8, ()), (), e9, ())))) (fun r0 => K .ret (mkSt2 pb54_87_4 ((), ((r0, ()), (), (), ()), ()))) v0 v1 v2 v3 v4 v5 v6 v7 v8 v9 v10 := by kernel_rfl
theorem it54_87_4 {R : Type} (d : Nat) (K : Ex → St → Option R) : ∀ (n : Nat) (v0 : Int) (v1 : Int) (v2 : List (Int)) (v3 : Int) (v4 : Int) (v5 : List UInt8) (v6 : List UInt8) (v7 : Int) (v8 : List (Int × Int × Int × Int × Unit)) (v9 : List (Int × (List UInt8) × (Int × Int × Unit))) (v10 : List (Int)),
    iter (some k54_87_4) (runD env54 (d + 6) 87 c54_87_4) n (mkSt2 p54_87_4 ((v0, v1, v2, v3, v4, ()), ((v5, ()), (), (), ()), ((v6, ()), (v7, ()), (v8, ()), (v9, ()), (), v10, ()))) K = obind (lp54_87_4 n v0 v1 v2 v3 v4 v5 v6 v7 v8 v9 v10) fun o => osum o (fun a => K (.exit 2) (mkSt2 pa54_87_4 a)) fun b => K .ret (mkSt2 pb54_87_4 b)
  | 0, _, _, _, _, _, _, _, _, _, _, _ => rfl
  | n + 1, v0, v1, v2, v3, v4, v5, v6, v7, v8, v9, v10 => by
    rw [step54_87_4]
    simp only [it54_87_4 d K n, lp54_87_4, st54_87_4, obind_cond, obind_none, obind_some, obind_obind, obind_osum]
    try simp only [osum]
theorem ok54_87_4 : LoopOk env54 87 c54_87_4 ls54_87_4 := loopBy2_ok (by kernel_rfl) fun R d K v o h => ⟨fuelN, (it54_87_4 d K fuelN (v.1.1) (v.1.2.1) (v.1.2.2.1) (v.1.2.2.2.1) (v.1.2.2.2.2.1) (v.2.1.1.1) (v.2.2.1.1) (v.2.2.2.1.1) (v.2.2.2.2.1.1) (v.2.2.2.2.2.1.1) (v.2.2.2.2.2.2.2.1)).trans (congrArg (fun o => obind o _) h)⟩
theorem step54_87_2 {R : Type} (d : Nat) (n : Nat) (K : Ex → St → Option R) (v0 : Int) (v1 : List (Int)) (v2 : Int) (v3 : Int) (v4 : List UInt8) (v5 : List UInt8) (v6 : Int) (v7 : List (Int × Int × Int × Int × Unit)) (v8 : List (Int × (List UInt8) × (Int × Int × Unit))) (v9 : List (Int)) :
    iter (some k54_87_2) (runD env54 (d + 12) 87 c54_87_2) (n + 1) (mkSt2 p54_87_2 ((v0, v1, v2, v3, ()), ((v4, ()), (), (), ()), ((v5, ()), (v6, ()), (v7, ()), (v8, ()), (), v9, ()))) K =
      st54_87_2 (fun v0 v1 v2 v3 v4 v5 v6 v7 v8 v9 => iter (some k54_87_2) (runD env54 (d + 12) 87 c54_87_2) n (mkSt2 p54_87_2 ((v0, v1, v2, v3, ()), ((v4, ()), (), (), ()), ((v5, ()), (v6, ()), (v7, ()), (v8, ()), (), v9, ()))) K) (fun e0 e1 e2 e3 e4 e5 e6 => K (.exit 0) (mkSt2 pa54_87_2 ((e0, ()), ((e1, ()), (), (), ()), ((e2, ()), (e3, ()), (e4, ()), (e5, ()), (), e6, ())))) (fun r0 => K .ret (mkSt2 pb54_87_2 ((), ((r0, ()), (), (), ()), ()))) v0 v1 v2 v3 v4 v5 v6 v7 v8 v9 := by kernel_rfl
theorem it54_87_2 {R : Type} (d : Nat) (K : Ex → St → Option R) : ∀ (n : Nat) (v0 : Int) (v1 : List (Int)) (v2 : Int) (v3 : Int) (v4 : List UInt8) (v5 : List UInt8) (v6 : Int) (v7 : List (Int × Int × Int × Int × Unit)) (v8 : List (Int × (List UInt8) × (Int × Int × Unit))) (v9 : List (Int)),
    iter (some k54_87_2) (runD env54 (d + 12) 87 c54_87_2) n (mkSt2 p54_87_2 ((v0, v1, v2, v3, ()), ((v4, ()), (), (), ()), ((v5, ()), (v6, ()), (v7, ()), (v8, ()), (), v9, ()))) K = obind (lp54_87_2 n v0 v1 v2 v3 v4 v5 v6 v7 v8 v9) fun o => osum o (fun a => K (.exit 0) (mkSt2 pa54_87_2 a)) fun b => K .ret (mkSt2 pb54_87_2 b)
  | 0, _, _, _, _, _, _, _, _, _, _ => rfl
  | n + 1, v0, v1, v2, v3, v4, v5, v6, v7, v8, v9 => by
    rw [step54_87_2]
    simp only [it54_87_2 d K n, lp54_87_2, st54_87_2, obind_cond, obind_none, obind_some, obind_obind, obind_osum]
    try simp only [osum]
theorem ok54_87_2 : LoopOk env54 87 c54_87_2 ls54_87_2 := loopBy2_ok (by kernel_rfl) fun R d K v o h => ⟨fuelN, (it54_87_2 d K fuelN (v.1.1) (v.1.2.1) (v.1.2.2.1) (v.1.2.2.2.1) (v.2.1.1.1) (v.2.2.1.1) (v.2.2.2.1.1) (v.2.2.2.2.1.1) (v.2.2.2.2.2.1.1) (v.2.2.2.2.2.2.2.1)).trans (congrArg (fun o => obind o _) h)⟩
theorem step54_87_10 {R : Type} (d : Nat) (n : Nat) (K : Ex → St → Option R) (v0 : Int) (v1 : List UInt8) (v2 : List UInt8) (v3 : Int) (v4 : List (Int × Int × Int × Int × Unit)) (v5 : List (Int × (List UInt8) × (Int × Int × Unit))) (v6 : List (Int)) :
    iter (some k54_87_10) (runD env54 (d + 18) 87 c54_87_10) (n + 1) (mkSt2 p54_87_10 ((v0, ()), ((v1, ()), (), (), ()), ((v2, ()), (v3, ()), (v4, ()), (v5, ()), (), v6, ()))) K =
      st54_87_10 (fun v0 v1 v2 v3 v4 v5 v6 => iter (some k54_87_10) (runD env54 (d + 18) 87 c54_87_10) n (mkSt2 p54_87_10 ((v0, ()), ((v1, ()), (), (), ()), ((v2, ()), (v3, ()), (v4, ()), (v5, ()), (), v6, ()))) K) (fun e0 e1 e2 e3 e4 e5 => K (.exit 4) (mkSt2 pa54_87_10 ((), ((e0, ()), (), (), ()), ((e1, ()), (e2, ()), (e3, ()), (e4, ()), (), e5, ())))) (fun r0 => K .ret (mkSt2 pb54_87_10 ((), ((r0, ()), (), (), ()), ()))) v0 v1 v2 v3 v4 v5 v6 := by kernel_rfl
theorem it54_87_10 {R : Type} (d : Nat) (K : Ex → St → Option R) : ∀ (n : Nat) (v0 : Int) (v1 : List UInt8) (v2 : List UInt8) (v3 : Int) (v4 : List (Int × Int × Int × Int × Unit)) (v5 : List (Int × (List UInt8) × (Int × Int × Unit))) (v6 : List (Int)),
    iter (some k54_87_10) (runD env54 (d + 18) 87 c54_87_10) n (mkSt2 p54_87_10 ((v0, ()), ((v1, ()), (), (), ()), ((v2, ()), (v3, ()), (v4, ()), (v5, ()), (), v6, ()))) K = obind (lp54_87_10 n v0 v1 v2 v3 v4 v5 v6) fun o => osum o (fun a => K (.exit 4) (mkSt2 pa54_87_10 a)) fun b => K .ret (mkSt2 pb54_87_10 b)
  | 0, _, _, _, _, _, _, _ => rfl
  | n + 1, v0, v1, v2, v3, v4, v5, v6 => by
    rw [step54_87_10]
    simp only [it54_87_10 d K n, lp54_87_10, st54_87_10, obind_cond, obind_none, obind_some, obind_obind, obind_osum]
    try simp only [osum]
theorem ok54_87_10 : LoopOk env54 87 c54_87_10 ls54_87_10 := loopBy2_ok (by kernel_rfl) fun R d K v o h => ⟨fuelN, (it54_87_10 d K fuelN (v.1.1) (v.2.1.1.1) (v.2.2.1.1) (v.2.2.2.1.1) (v.2.2.2.2.1.1) (v.2.2.2.2.2.1.1) (v.2.2.2.2.2.2.2.1)).trans (congrArg (fun o => obind o _) h)⟩
theorem run54 (x0 : List (Int × (List UInt8) × (Int × Int × Unit))) (x1 : List (Int × Int × Int × Int × Unit)) (x2 : Int) : runF env54 54 [.list (.pair (.int .i64) (.pair .str (.pair (.int .i64) (.pair (.int .i64) .unit)))), .list (.pair (.int .i64) (.pair (.int .i64) (.pair (.int .i64) (.pair (.int .i64) .unit)))), .int .i64] [(.str, false)] (x0, x1, x2, ()) = fn54 x0 x1 x2 := by kernel_rfl
theorem lat54 : loopsAt b54 = [] := by kernel_rfl
theorem rat54 : rangesAt b54 = [(cA (cA (cB (cA (cB (cB (b54)))))), cB (cA (cB (cA (cB (cB (b54)))))))] := by kernel_rfl
theorem lok54 : loopsOk env54 54 b54 := loopsOk_at2 b54 (by rw [rat54]; exact (List.forall_mem_cons.2 ⟨(fun _ => (show rfTab 54 4 = some (cA (cA (cB (cA (cB (cB (b54)))))), cB (cA (cB (cA (cB (cB (b54))))))) by kernel_rfl)), (fun _ h => absurd h List.not_mem_nil)⟩)) (by rw [lat54]; exact (fun _ h => absurd h List.not_mem_nil))
theorem lat54_87 : loopsAt b54_87 = [c54_87_4, c54_87_2, c54_87_10] := by kernel_rfl
theorem lok54_87 : loopsOk env54 87 b54_87 := loopsOk_at b54_87 (fun _ => rfl) (by rw [lat54_87]; exact (List.forall_mem_cons.2 ⟨(fun L h => by rw [show env54.lp 87 (firstRegion c54_87_4) = some ls54_87_4 by kernel_rfl] at h; cases h; exact ok54_87_4), (List.forall_mem_cons.2 ⟨(fun L h => by rw [show env54.lp 87 (firstRegion c54_87_2) = some ls54_87_2 by kernel_rfl] at h; cases h; exact ok54_87_2), (List.forall_mem_cons.2 ⟨(fun L h => by rw [show env54.lp 87 (firstRegion c54_87_10) = some ls54_87_10 by kernel_rfl] at h; cases h; exact ok54_87_10), (fun _ h => absurd h List.not_mem_nil)⟩)⟩)⟩))
theorem env54_ok : EnvOk env54 := envOf2_ok tok mixed noGor (sg := [(10, sum10), (51, sum51)]) (List.forall_mem_cons.2 ⟨(sum10_ok), (List.forall_mem_cons.2 ⟨(sum51_ok), (fun _ h => absurd h List.not_mem_nil)⟩)⟩) [54, 87] (by kernel_rfl) (by kernel_rfl) (List.forall_mem_cons.2 ⟨⟨Try.f54, b54, by kernel_rfl, by kernel_rfl, lok54⟩, (List.forall_mem_cons.2 ⟨⟨Try.f87, b54_87, by kernel_rfl, by kernel_rfl, lok54_87⟩, (fun _ h => absurd h List.not_mem_nil)⟩)⟩) rf_ok chk_ok
theorem sum54_ok : SumOk Try.prog 54 sum54 := sum_of_run env54_ok (by decide) fun x y h => (run54 (x.1) (x.2.1) (x.2.2.1)).trans h

/-! ### quillwort/tree.Path -/
noncomputable def b38 : Code := (Try.f38.body).getD .skip
noncomputable def b38_57 : Code := (Try.f57.body).getD .skip
noncomputable def c38_1 : Code := cA (cA (cA (cB (b38))))
noncomputable def c38_57_1 : Code := cA (cA (cB (b38_57)))
def k38_1 : Keep := ⟨[0, 1, 4, 100001], [(4, (.int .i64))], [4], [(4, (.int .i64))], [4], [(4, (.int .i64))]⟩
def k38_57_1 : Keep := ⟨[0, 2, 3, 58000001], [], [], [], [], []⟩
def p38_1 : SP := ⟨us [.v (.list (.pair (.int .i64) (.pair (.int .i64) (.pair (.int .i64) (.pair (.int .i64) .unit))))), .v (.int .i64), .u, .u, .slc 1800004] 22, [.arr 1800004 (.int .i64)]⟩
def pa38_1 : SP := ⟨us [.u, .u, .u, .u, .slc 1800004] 22, [.arr 1800004 (.int .i64)]⟩
def pb38_1 : SP := ⟨us [.u, .u, .u, .u, .v (.list (.int .i64))] 22, []⟩
def st38_1 {γ : Type} (rec : (List (Int × Int × Int × Int × Unit)) → Int → (List (Int)) → Option γ) (kE : (List (Int)) → Option γ) (kR : (List (Int)) → Option γ) (v0 : List (Int × Int × Int × Int × Unit)) (v1 : Int) (v2 : List (Int)) : Option γ :=
  obind (fn56 v0 v1) fun y0 =>
    bif y0.1 then
      bif (fitI (catL v2 [v1]) 8) then
        bif (inI v0 v1) then
          bif (leI v1 (getI v0 (0, (0, (0, (0, ())))) v1).2.2.2.1) then
            kE (catL v2 [v1])
          else
          bif (inI v0 v1) then
            rec v0 (getI v0 (0, (0, (0, (0, ())))) v1).2.2.2.1 (catL v2 [v1])
          else
          none
        else
        none
      else
      none
    else
    kE v2
def lp38_1 : Nat → (List (Int × Int × Int × Int × Unit)) → Int → (List (Int)) → Option (pa38_1.den ⊕ pb38_1.den)
  | 0, _, _, _ => none
  | n + 1, v0, v1, v2 => st38_1 (lp38_1 n) (fun e0 => some (.inl ((), (e0, ())))) (fun r0 => some (.inr ((r0, ()), ()))) v0 v1 v2
noncomputable def ls38_1 : LoopSum := loopBy k38_1 p38_1 pa38_1 pb38_1 (.exit 0) (fun v => lp38_1 fuelN v.1.1 v.1.2.1 v.2.1) 6
def p38_57_1 : SQ := ⟨us [.slc 1800004, .u, .v (.int .i64), .v (.int .i64)] 24, [[.u, .u, .u, .u, .slc 1800004, .u, .u, .u, .u, .u, .u, .u, .u, .u, .u, .u, .u, .u, .u, .u, .u, .u, .u, .u, .slc 1800004, .u, .u], []], [.arr 1800004 (.int .i64)]⟩
def pa38_57_1 : SQ := ⟨us [] 28, [[.u, .u, .u, .u, .slc 1800004, .u, .u, .u, .u, .u, .u, .u, .u, .u, .u, .u, .u, .u, .u, .u, .u, .u, .u, .u, .slc 1800004, .u, .u], []], [.arr 1800004 (.int .i64)]⟩
def pb38_57_1 : SQ := ⟨us [] 28, [[.u, .u, .u, .u, .slc 1800004, .u, .u, .u, .u, .u, .u, .u, .u, .u, .u, .u, .u, .u, .u, .u, .u, .u, .u, .u, .slc 1800004, .u, .u], []], []⟩
def st38_57_1 {γ : Type} (rec : Int → Int → (List (Int)) → Option γ) (kE : (List (Int)) → Option γ) (kR : Option γ) (v0 : Int) (v1 : Int) (v2 : List (Int)) : Option γ :=
  bif (ltI v0 v1) then
    bif (inI v2 v1) then
      bif (inI v2 v0) then
        bif (ltL (natI v1) v2) then
          bif (ltL (natI v0) v2) then
            bif (inI v2 v0) then
              bif (ltL (natI v0) v2) then
                bif (inI (setI v2 (natI v0) (nthN v2 0 (natI v1))) v1) then
                  bif (ltL (natI v1) (setI v2 (natI v0) (nthN v2 0 (natI v1)))) then
                    rec (addK .i64 v0 1) (subK .i64 v1 1) (setI (setI v2 (natI v0) (nthN v2 0 (natI v1))) (natI v1) (nthN v2 0 (natI v0)))
                  else
                  none
                else
                none
              else
              none
            else
            none
          else
          none
        else
        none
      else
      none
    else
    none
  else
  kE v2
def lp38_57_1 : Nat → Int → Int → (List (Int)) → Option (pa38_57_1.den ⊕ pb38_57_1.den)
  | 0, _, _, _ => none
  | n + 1, v0, v1, v2 => st38_57_1 (lp38_57_1 n) (fun e0 => some (.inl ((), ((), (), ()), (e0, ())))) (some (.inr ((), ((), (), ()), ()))) v0 v1 v2
noncomputable def ls38_57_1 : LoopSum := loopBy2 k38_57_1 p38_57_1 pa38_57_1 pb38_57_1 (.exit 0) (fun v => lp38_57_1 fuelN v.1.1 v.1.2.1 v.2.2.1) 12
def fn38 (x0 : List (Int × Int × Int × Int × Unit)) (x1 : Int) : Option ((List (Int)) × Unit) :=
  obind (lp38_1 fuelN x0 x1 []) fun y0 =>
    osum y0 (fun a1 =>
      obind (lp38_57_1 fuelN 0 (subK .i64 (lenI a1.2.1) 1) a1.2.1) fun y2 =>
        osum y2 (fun a3 =>
          some (a3.2.2.1, ())) (fun b3 =>
          none)) (fun b1 =>
      some (b1.1.1, ()))
def sum38 : Sum := (⟨[.list (.pair (.int .i64) (.pair (.int .i64) (.pair (.int .i64) (.pair (.int .i64) .unit)))), .int .i64], [(.list (.int .i64), false)], fun x => fn38 x.1 x.2.1⟩ : Sum)
noncomputable def env38 : Env := envOf2 Try.prog tt [(56, sum56)] [(38, 1, k38_1), (57, 1, k38_57_1)] [(38, 1, ls38_1), (57, 1, ls38_57_1)] []
theorem step38_1 {R : Type} (d : Nat) (n : Nat) (K : Ex → St → Option R) (v0 : List (Int × Int × Int × Int × Unit)) (v1 : Int) (v2 : List (Int)) :
    iter (some k38_1) (runD env38 (d + 6) 38 c38_1) (n + 1) (mkSt p38_1 ((v0, v1, ()), (v2, ()))) K =
      st38_1 (fun v0 v1 v2 => iter (some k38_1) (runD env38 (d + 6) 38 c38_1) n (mkSt p38_1 ((v0, v1, ()), (v2, ()))) K) (fun e0 => K (.exit 0) (mkSt pa38_1 ((), (e0, ())))) (fun r0 => K .ret (mkSt pb38_1 ((r0, ()), ()))) v0 v1 v2 := by kernel_rfl
theorem it38_1 {R : Type} (d : Nat) (K : Ex → St → Option R) : ∀ (n : Nat) (v0 : List (Int × Int × Int × Int × Unit)) (v1 : Int) (v2 : List (Int)),
    iter (some k38_1) (runD env38 (d + 6) 38 c38_1) n (mkSt p38_1 ((v0, v1, ()), (v2, ()))) K = obind (lp38_1 n v0 v1 v2) fun o => osum o (fun a => K (.exit 0) (mkSt pa38_1 a)) fun b => K .ret (mkSt pb38_1 b)
  | 0, _, _, _ => rfl
  | n + 1, v0, v1, v2 => by
    rw [step38_1]
    simp only [it38_1 d K n, lp38_1, st38_1, obind_cond, obind_none, obind_some, obind_obind, obind_osum]
    try simp only [osum]
theorem ok38_1 : LoopOk env38 38 c38_1 ls38_1 := loopBy_ok (by kernel_rfl) fun R d K v o h => ⟨fuelN, (it38_1 d K fuelN (v.1.1) (v.1.2.1) (v.2.1)).trans (congrArg (fun o => obind o _) h)⟩
theorem step38_57_1 {R : Type} (d : Nat) (n : Nat) (K : Ex → St → Option R) (v0 : Int) (v1 : Int) (v2 : List (Int)) :
    iter (some k38_57_1) (runD env38 (d + 12) 57 c38_57_1) (n + 1) (mkSt2 p38_57_1 ((v0, v1, ()), ((), (), ()), (v2, ()))) K =
      st38_57_1 (fun v0 v1 v2 => iter (some k38_57_1) (runD env38 (d + 12) 57 c38_57_1) n (mkSt2 p38_57_1 ((v0, v1, ()), ((), (), ()), (v2, ()))) K) (fun e0 => K (.exit 0) (mkSt2 pa38_57_1 ((), ((), (), ()), (e0, ())))) (K .ret (mkSt2 pb38_57_1 ((), ((), (), ()), ()))) v0 v1 v2 := by kernel_rfl
theorem it38_57_1 {R : Type} (d : Nat) (K : Ex → St → Option R) : ∀ (n : Nat) (v0 : Int) (v1 : Int) (v2 : List (Int)),
    iter (some k38_57_1) (runD env38 (d + 12) 57 c38_57_1) n (mkSt2 p38_57_1 ((v0, v1, ()), ((), (), ()), (v2, ()))) K = obind (lp38_57_1 n v0 v1 v2) fun o => osum o (fun a => K (.exit 0) (mkSt2 pa38_57_1 a)) fun b => K .ret (mkSt2 pb38_57_1 b)
  | 0, _, _, _ => rfl
  | n + 1, v0, v1, v2 => by
    rw [step38_57_1]
    simp only [it38_57_1 d K n, lp38_57_1, st38_57_1, obind_cond, obind_none, obind_some, obind_obind, obind_osum]
    try simp only [osum]
theorem ok38_57_1 : LoopOk env38 57 c38_57_1 ls38_57_1 := loopBy2_ok (by kernel_rfl) fun R d K v o h => ⟨fuelN, (it38_57_1 d K fuelN (v.1.1) (v.1.2.1) (v.2.2.1)).trans (congrArg (fun o => obind o _) h)⟩
theorem run38 (x0 : List (Int × Int × Int × Int × Unit)) (x1 : Int) : runF env38 38 [.list (.pair (.int .i64) (.pair (.int .i64) (.pair (.int .i64) (.pair (.int .i64) .unit)))), .int .i64] [(.list (.int .i64), false)] (x0, x1, ()) = fn38 x0 x1 := by kernel_rfl
theorem lat38 : loopsAt b38 = [c38_1] := by kernel_rfl
theorem lok38 : loopsOk env38 38 b38 := loopsOk_at b38 (fun _ => rfl) (by rw [lat38]; exact (List.forall_mem_cons.2 ⟨(fun L h => by rw [show env38.lp 38 (firstRegion c38_1) = some ls38_1 by kernel_rfl] at h; cases h; exact ok38_1), (fun _ h => absurd h List.not_mem_nil)⟩))
theorem lat38_57 : loopsAt b38_57 = [c38_57_1] := by kernel_rfl
theorem lok38_57 : loopsOk env38 57 b38_57 := loopsOk_at b38_57 (fun _ => rfl) (by rw [lat38_57]; exact (List.forall_mem_cons.2 ⟨(fun L h => by rw [show env38.lp 57 (firstRegion c38_57_1) = some ls38_57_1 by kernel_rfl] at h; cases h; exact ok38_57_1), (fun _ h => absurd h List.not_mem_nil)⟩))
theorem env38_ok : EnvOk env38 := envOf2_ok tok mixed noGor (sg := [(56, sum56)]) (List.forall_mem_cons.2 ⟨(sum56_ok), (fun _ h => absurd h List.not_mem_nil)⟩) [38, 57] (by kernel_rfl) (by kernel_rfl) (List.forall_mem_cons.2 ⟨⟨Try.f38, b38, by kernel_rfl, by kernel_rfl, lok38⟩, (List.forall_mem_cons.2 ⟨⟨Try.f57, b38_57, by kernel_rfl, by kernel_rfl, lok38_57⟩, (fun _ h => absurd h List.not_mem_nil)⟩)⟩) rf_ok chk_ok
theorem sum38_ok : SumOk Try.prog 38 sum38 := sum_of_run env38_ok (by decide) fun x y h => (run38 (x.1) (x.2.1)).trans h

/-! ### quillwort/rules.Deep -/
noncomputable def b22 : Code := (Try.f22.body).getD .skip
noncomputable def c22_3 : Code := cA (cA (cB (cA (cB (cB (b22))))))
def k22_3 : Keep := ⟨[0, 1, 5, 10, 11, 12, 100003], [], [5], [], [4], []⟩
def p22_3 : SP := ⟨us [.v (.list (.pair (.int .i64) (.pair (.int .i64) (.pair (.int .i64) (.pair (.int .i64) .unit))))), .v (.int .i64), .u, .u, .u, .v (.int .i64), .u, .u, .u, .u, .v (.list (.int .i64)), .v (.int .i64), .v (.int .i64)] 36, []⟩
def pa22_3 : SP := ⟨us [.u, .u, .u, .u, .u, .v (.int .i64)] 43, []⟩
def pb22_3 : SP := ⟨us [.u, .u, .u, .u, .v (.int .i64)] 44, []⟩
def st22_3 {γ : Type} (rec : (List (Int × Int × Int × Int × Unit)) → Int → Int → (List (Int)) → Int → Int → Option γ) (kE : Int → Option γ) (kR : Int → Option γ) (v0 : List (Int × Int × Int × Int × Unit)) (v1 : Int) (v2 : Int) (v3 : List (Int)) (v4 : Int) (v5 : Int) : Option γ :=
  bif (ltI v5 v4) then
    bif (inI v3 v5) then
      bif (!(eqI (getI v3 0 v5) v1)) then
        bif (inI v0 (getI v3 0 v5)) then
          bif (ltI 0 (getI v0 (0, (0, (0, (0, ())))) (getI v3 0 v5)).1) then
            bif (inI v0 (getI v3 0 v5)) then
              bif (ltI (getI v0 (0, (0, (0, (0, ())))) (getI v3 0 v5)).1 19) then
                bif (inI v0 (getI v3 0 v5)) then
                  bif (inI [63, 80, 76, 65, 73, 83, 88, 87, 82, 66, 85, 70, 72, 79, 67, 84, 78, 69, 77] (getI v0 (0, (0, (0, (0, ())))) (getI v3 0 v5)).1) then
                    obind (fn39 [66, 85, 70, 72, 79, 67, 78] (byteAt [63, 80, 76, 65, 73, 83, 88, 87, 82, 66, 85, 70, 72, 79, 67, 84, 78, 69, 77] (getI v0 (0, (0, (0, (0, ())))) (getI v3 0 v5)).1)) fun y0 =>
                      bif (leI 0 y0.1) then
                        rec v0 v1 (addK .i64 v2 1) v3 v4 (addK .i64 v5 1)
                      else
                      rec v0 v1 v2 v3 v4 (addK .i64 v5 1)
                  else
                  none
                else
                none
              else
              rec v0 v1 v2 v3 v4 (addK .i64 v5 1)
            else
            none
          else
          rec v0 v1 v2 v3 v4 (addK .i64 v5 1)
        else
        none
      else
      rec v0 v1 v2 v3 v4 (addK .i64 v5 1)
    else
    none
  else
  kE v2
def lp22_3 : Nat → (List (Int × Int × Int × Int × Unit)) → Int → Int → (List (Int)) → Int → Int → Option (pa22_3.den ⊕ pb22_3.den)
  | 0, _, _, _, _, _, _ => none
  | n + 1, v0, v1, v2, v3, v4, v5 => st22_3 (lp22_3 n) (fun e0 => some (.inl ((e0, ()), ()))) (fun r0 => some (.inr ((r0, ()), ()))) v0 v1 v2 v3 v4 v5
noncomputable def ls22_3 : LoopSum := loopBy k22_3 p22_3 pa22_3 pb22_3 (.exit 0) (fun v => lp22_3 fuelN v.1.1 v.1.2.1 v.1.2.2.1 v.1.2.2.2.1 v.1.2.2.2.2.1 v.1.2.2.2.2.2.1) 6
def fn22 (x0 : List (Int × Int × Int × Int × Unit)) (x1 : Int) : Option (Int × Unit) :=
  obind (fn38 x0 x1) fun y0 =>
    obind (lp22_3 fuelN x0 x1 0 y0.1 (lenI y0.1) 0) fun y1 =>
      osum y1 (fun a2 =>
        some (a2.1.1, ())) (fun b2 =>
        some (b2.1.1, ()))
def sum22 : Sum := (⟨[.list (.pair (.int .i64) (.pair (.int .i64) (.pair (.int .i64) (.pair (.int .i64) .unit)))), .int .i64], [(.int .i64, false)], fun x => fn22 x.1 x.2.1⟩ : Sum)
noncomputable def env22 : Env := envOf Try.prog tt 22 [(38, sum38), (39, sum39)] [(3, k22_3)] [(3, ls22_3)]
theorem step22_3 {R : Type} (d : Nat) (n : Nat) (K : Ex → St → Option R) (v0 : List (Int × Int × Int × Int × Unit)) (v1 : Int) (v2 : Int) (v3 : List (Int)) (v4 : Int) (v5 : Int) :
    iter (some k22_3) (runD env22 (d + 6) 22 c22_3) (n + 1) (mkSt p22_3 ((v0, v1, v2, v3, v4, v5, ()), ())) K =
      st22_3 (fun v0 v1 v2 v3 v4 v5 => iter (some k22_3) (runD env22 (d + 6) 22 c22_3) n (mkSt p22_3 ((v0, v1, v2, v3, v4, v5, ()), ())) K) (fun e0 => K (.exit 0) (mkSt pa22_3 ((e0, ()), ()))) (fun r0 => K .ret (mkSt pb22_3 ((r0, ()), ()))) v0 v1 v2 v3 v4 v5 := by kernel_rfl
theorem it22_3 {R : Type} (d : Nat) (K : Ex → St → Option R) : ∀ (n : Nat) (v0 : List (Int × Int × Int × Int × Unit)) (v1 : Int) (v2 : Int) (v3 : List (Int)) (v4 : Int) (v5 : Int),
    iter (some k22_3) (runD env22 (d + 6) 22 c22_3) n (mkSt p22_3 ((v0, v1, v2, v3, v4, v5, ()), ())) K = obind (lp22_3 n v0 v1 v2 v3 v4 v5) fun o => osum o (fun a => K (.exit 0) (mkSt pa22_3 a)) fun b => K .ret (mkSt pb22_3 b)
  | 0, _, _, _, _, _, _ => rfl
  | n + 1, v0, v1, v2, v3, v4, v5 => by
    rw [step22_3]
    simp only [it22_3 d K n, lp22_3, st22_3, obind_cond, obind_none, obind_some, obind_obind, obind_osum]
    try simp only [osum]
theorem ok22_3 : LoopOk env22 22 c22_3 ls22_3 := loopBy_ok (by kernel_rfl) fun R d K v o h => ⟨fuelN, (it22_3 d K fuelN (v.1.1) (v.1.2.1) (v.1.2.2.1) (v.1.2.2.2.1) (v.1.2.2.2.2.1) (v.1.2.2.2.2.2.1)).trans (congrArg (fun o => obind o _) h)⟩
theorem run22 (x0 : List (Int × Int × Int × Int × Unit)) (x1 : Int) : runF env22 22 [.list (.pair (.int .i64) (.pair (.int .i64) (.pair (.int .i64) (.pair (.int .i64) .unit)))), .int .i64] [(.int .i64, false)] (x0, x1, ()) = fn22 x0 x1 := by kernel_rfl
theorem lat22 : loopsAt b22 = [c22_3] := by kernel_rfl
theorem lok22 : loopsOk env22 22 b22 := loopsOk_at b22 (fun _ => rfl) (by rw [lat22]; exact (List.forall_mem_cons.2 ⟨(fun L h => by rw [show env22.lp 22 (firstRegion c22_3) = some ls22_3 by kernel_rfl] at h; cases h; exact ok22_3), (fun _ h => absurd h List.not_mem_nil)⟩))
theorem env22_ok : EnvOk env22 := envOf_ok tok mixed noGor (sg := [(38, sum38), (39, sum39)]) (List.forall_mem_cons.2 ⟨(sum38_ok), (List.forall_mem_cons.2 ⟨(sum39_ok), (fun _ h => absurd h List.not_mem_nil)⟩)⟩) (fn := Try.f22) (c := b22) (by kernel_rfl) (by kernel_rfl) lok22 rf_ok chk_ok
theorem sum22_ok : SumOk Try.prog 22 sum22 := sum_of_run env22_ok (by decide) fun x y h => (run22 (x.1) (x.2.1)).trans h

/-! ### quillwort/rules.first -/
noncomputable def b72 : Code := (Try.f72.body).getD .skip
noncomputable def c72_2 : Code := cA (cA (cB (cA (cB (b72)))))
def k72_2 : Keep := ⟨[0, 1, 6, 12, 13, 14, 100002], [], [6], [], [6, 7], []⟩
def p72_2 : SP := ⟨us [.v (.list (.pair (.int .i64) (.pair .str (.pair (.int .i64) (.pair (.int .i64) .unit))))), .v (.list (.pair (.int .i64) (.pair (.int .i64) (.pair (.int .i64) (.pair (.int .i64) .unit))))), .u, .u, .u, .u, .ptr 1000006 0, .u, .u, .u, .u, .u, .v (.list (.int .i64)), .v (.int .i64), .v (.int .i64)] 32, [.box 1000006 23 [.v (.int .i64), .v .str, .v (.int .i64), .v (.int .i64)]]⟩
def pa72_2 : SP := ⟨us [.u, .u, .u, .u, .u, .u, .ptr 1000006 0] 40, [.box 1000006 23 [.v (.int .i64), .v .str, .v (.int .i64), .v (.int .i64)]]⟩
def pb72_2 : SP := ⟨us [.u, .u, .u, .u, .u, .u, .ptr 1000006 0, .v .bool] 39, [.box 1000006 23 [.v (.int .i64), .v .str, .v (.int .i64), .v (.int .i64)]]⟩
def st72_2 {γ : Type} (rec : (List (Int × (List UInt8) × (Int × Int × Unit))) → (List (Int × Int × Int × Int × Unit)) → (List (Int)) → Int → Int → Int → (List UInt8) → Int → Int → Option γ) (kE : Int → (List UInt8) → Int → Int → Option γ) (kR : Bool → Int → (List UInt8) → Int → Int → Option γ) (v0 : List (Int × (List UInt8) × (Int × Int × Unit))) (v1 : List (Int × Int × Int × Int × Unit)) (v2 : List (Int)) (v3 : Int) (v4 : Int) (v5 : Int) (v6 : List UInt8) (v7 : Int) (v8 : Int) : Option γ :=
  bif (ltI v4 v3) then
    bif (inI v2 v4) then
      bif (inI v1 (getI v2 0 v4)) then
        bif (eqI (getI v1 (0, (0, (0, (0, ())))) (getI v2 0 v4)).1 7) then
          bif (inI v1 (getI v2 0 v4)) then
            bif (inI v1 (getI v2 0 v4)) then
              bif (ltI (getI v1 (0, (0, (0, (0, ())))) (getI v2 0 v4)).2.1 (getI v1 (0, (0, (0, (0, ())))) (getI v2 0 v4)).2.2.1) then
                bif (inI v1 (getI v2 0 v4)) then
                  bif (inI v0 (getI v1 (0, (0, (0, (0, ())))) (getI v2 0 v4)).2.1) then
                    kR true (getI v0 (0, ([], (0, (0, ())))) (getI v1 (0, (0, (0, (0, ())))) (getI v2 0 v4)).2.1).1 (getI v0 (0, ([], (0, (0, ())))) (getI v1 (0, (0, (0, (0, ())))) (getI v2 0 v4)).2.1).2.1 (getI v0 (0, ([], (0, (0, ())))) (getI v1 (0, (0, (0, (0, ())))) (getI v2 0 v4)).2.1).2.2.1 (getI v0 (0, ([], (0, (0, ())))) (getI v1 (0, (0, (0, (0, ())))) (getI v2 0 v4)).2.1).2.2.2.1
                  else
                  none
                else
                none
              else
              rec v0 v1 v2 v3 (addK .i64 v4 1) v5 v6 v7 v8
            else
            none
          else
          none
        else
        rec v0 v1 v2 v3 (addK .i64 v4 1) v5 v6 v7 v8
      else
      none
    else
    none
  else
  kE v5 v6 v7 v8
def lp72_2 : Nat → (List (Int × (List UInt8) × (Int × Int × Unit))) → (List (Int × Int × Int × Int × Unit)) → (List (Int)) → Int → Int → Int → (List UInt8) → Int → Int → Option (pa72_2.den ⊕ pb72_2.den)
  | 0, _, _, _, _, _, _, _, _, _ => none
  | n + 1, v0, v1, v2, v3, v4, v5, v6, v7, v8 => st72_2 (lp72_2 n) (fun e0 e1 e2 e3 => some (.inl ((), ((e0, e1, e2, e3, ()), ())))) (fun r0 r1 r2 r3 r4 => some (.inr ((r0, ()), ((r1, r2, r3, r4, ()), ())))) v0 v1 v2 v3 v4 v5 v6 v7 v8
noncomputable def ls72_2 : LoopSum := loopBy k72_2 p72_2 pa72_2 pb72_2 (.exit 0) (fun v => lp72_2 fuelN v.1.1 v.1.2.1 v.1.2.2.1 v.1.2.2.2.1 v.1.2.2.2.2.1 v.2.1.1 v.2.1.2.1 v.2.1.2.2.1 v.2.1.2.2.2.1) 6
def fn72 (x0 : List (Int × (List UInt8) × (Int × Int × Unit))) (x1 : List (Int × Int × Int × Int × Unit)) (x2 : Int) : Option ((Int × (List UInt8) × (Int × Int × Unit)) × Bool × Unit) :=
  obind (fn51 x1 x2) fun y0 =>
    obind (lp72_2 fuelN x0 x1 y0.1 (lenI y0.1) 0 0 [] 0 0) fun y1 =>
      osum y1 (fun a2 =>
        some ((0, ([], (0, (0, ())))), (false, ()))) (fun b2 =>
        some ((b2.2.1.1, (b2.2.1.2.1, (b2.2.1.2.2.1, (b2.2.1.2.2.2.1, ())))), (b2.1.1, ())))
def sum72 : Sum := (⟨[.list (.pair (.int .i64) (.pair .str (.pair (.int .i64) (.pair (.int .i64) .unit)))), .list (.pair (.int .i64) (.pair (.int .i64) (.pair (.int .i64) (.pair (.int .i64) .unit)))), .int .i64], [(.pair (.int .i64) (.pair .str (.pair (.int .i64) (.pair (.int .i64) .unit))), false), (.bool, false)], fun x => fn72 x.1 x.2.1 x.2.2.1⟩ : Sum)
noncomputable def env72 : Env := envOf Try.prog tt 72 [(51, sum51)] [(2, k72_2)] [(2, ls72_2)]
theorem step72_2 {R : Type} (d : Nat) (n : Nat) (K : Ex → St → Option R) (v0 : List (Int × (List UInt8) × (Int × Int × Unit))) (v1 : List (Int × Int × Int × Int × Unit)) (v2 : List (Int)) (v3 : Int) (v4 : Int) (v5 : Int) (v6 : List UInt8) (v7 : Int) (v8 : Int) :
    iter (some k72_2) (runD env72 (d + 6) 72 c72_2) (n + 1) (mkSt p72_2 ((v0, v1, v2, v3, v4, ()), ((v5, v6, v7, v8, ()), ()))) K =
      st72_2 (fun v0 v1 v2 v3 v4 v5 v6 v7 v8 => iter (some k72_2) (runD env72 (d + 6) 72 c72_2) n (mkSt p72_2 ((v0, v1, v2, v3, v4, ()), ((v5, v6, v7, v8, ()), ()))) K) (fun e0 e1 e2 e3 => K (.exit 0) (mkSt pa72_2 ((), ((e0, e1, e2, e3, ()), ())))) (fun r0 r1 r2 r3 r4 => K .ret (mkSt pb72_2 ((r0, ()), ((r1, r2, r3, r4, ()), ())))) v0 v1 v2 v3 v4 v5 v6 v7 v8 := by kernel_rfl
theorem it72_2 {R : Type} (d : Nat) (K : Ex → St → Option R) : ∀ (n : Nat) (v0 : List (Int × (List UInt8) × (Int × Int × Unit))) (v1 : List (Int × Int × Int × Int × Unit)) (v2 : List (Int)) (v3 : Int) (v4 : Int) (v5 : Int) (v6 : List UInt8) (v7 : Int) (v8 : Int),
    iter (some k72_2) (runD env72 (d + 6) 72 c72_2) n (mkSt p72_2 ((v0, v1, v2, v3, v4, ()), ((v5, v6, v7, v8, ()), ()))) K = obind (lp72_2 n v0 v1 v2 v3 v4 v5 v6 v7 v8) fun o => osum o (fun a => K (.exit 0) (mkSt pa72_2 a)) fun b => K .ret (mkSt pb72_2 b)
  | 0, _, _, _, _, _, _, _, _, _ => rfl
  | n + 1, v0, v1, v2, v3, v4, v5, v6, v7, v8 => by
    rw [step72_2]
    simp only [it72_2 d K n, lp72_2, st72_2, obind_cond, obind_none, obind_some, obind_obind, obind_osum]
    try simp only [osum]
theorem ok72_2 : LoopOk env72 72 c72_2 ls72_2 := loopBy_ok (by kernel_rfl) fun R d K v o h => ⟨fuelN, (it72_2 d K fuelN (v.1.1) (v.1.2.1) (v.1.2.2.1) (v.1.2.2.2.1) (v.1.2.2.2.2.1) (v.2.1.1) (v.2.1.2.1) (v.2.1.2.2.1) (v.2.1.2.2.2.1)).trans (congrArg (fun o => obind o _) h)⟩
theorem run72 (x0 : List (Int × (List UInt8) × (Int × Int × Unit))) (x1 : List (Int × Int × Int × Int × Unit)) (x2 : Int) : runF env72 72 [.list (.pair (.int .i64) (.pair .str (.pair (.int .i64) (.pair (.int .i64) .unit)))), .list (.pair (.int .i64) (.pair (.int .i64) (.pair (.int .i64) (.pair (.int .i64) .unit)))), .int .i64] [(.pair (.int .i64) (.pair .str (.pair (.int .i64) (.pair (.int .i64) .unit))), false), (.bool, false)] (x0, x1, x2, ()) = fn72 x0 x1 x2 := by kernel_rfl
theorem lat72 : loopsAt b72 = [c72_2] := by kernel_rfl
theorem lok72 : loopsOk env72 72 b72 := loopsOk_at b72 (fun _ => rfl) (by rw [lat72]; exact (List.forall_mem_cons.2 ⟨(fun L h => by rw [show env72.lp 72 (firstRegion c72_2) = some ls72_2 by kernel_rfl] at h; cases h; exact ok72_2), (fun _ h => absurd h List.not_mem_nil)⟩))
theorem env72_ok : EnvOk env72 := envOf_ok tok mixed noGor (sg := [(51, sum51)]) (List.forall_mem_cons.2 ⟨(sum51_ok), (fun _ h => absurd h List.not_mem_nil)⟩) (fn := Try.f72) (c := b72) (by kernel_rfl) (by kernel_rfl) lok72 rf_ok chk_ok
theorem sum72_ok : SumOk Try.prog 72 sum72 := sum_of_run env72_ok (by decide) fun x y h => (run72 (x.1) (x.2.1) (x.2.2.1)).trans h

/-! ### quillwort/class.Reserved -/
noncomputable def b75 : Code := (Try.f75.body).getD .skip
noncomputable def c75_800018 : Code := cB (cA (cB (cA (cB (b75)))))
def k75_800018 : Keep := ⟨[4, 900018], [], [], [], [2], []⟩
def p75_800018 : SP := ⟨us [.u, .u, .u, .u, .v .bool] 16, []⟩
def pa75_800018 : SP := ⟨us [] 21, []⟩
def pb75_800018 : SP := ⟨us [.u, .u, .v .bool] 18, []⟩
def st75_800018 {γ : Type} (kE : Option γ) (kR : Bool → Option γ) (v0 : Bool) : Option γ :=
  bif v0 then
    kR true
  else
  kE 
def lp75_800018 (v0 : Bool) : Option (pa75_800018.den ⊕ pb75_800018.den) := st75_800018 (some (.inl ((), ()))) (fun r0 => some (.inr ((r0, ()), ()))) v0
noncomputable def ls75_800018 : LoopSum := loopBy k75_800018 p75_800018 pa75_800018 pb75_800018 (.exit 999999) (fun v => lp75_800018 v.1.1) 6
def fn75 (x0 : List UInt8) : Option (Bool × Unit) :=
  bif (eqS x0 [33]) then
    obind (lp75_800018 (eqS x0 [33])) fun y0 =>
      osum y0 (fun a1 =>
        some (false, ())) (fun b1 =>
        some (b1.1.1, ()))
  else
  bif (eqS x0 [123]) then
    obind (lp75_800018 (eqS x0 [123])) fun y0 =>
      osum y0 (fun a1 =>
        some (false, ())) (fun b1 =>
        some (b1.1.1, ()))
  else
  bif (eqS x0 [125]) then
    obind (lp75_800018 (eqS x0 [125])) fun y0 =>
      osum y0 (fun a1 =>
        some (false, ())) (fun b1 =>
        some (b1.1.1, ()))
  else
  bif (eqS x0 [99, 97, 115, 101]) then
    obind (lp75_800018 (eqS x0 [99, 97, 115, 101])) fun y0 =>
      osum y0 (fun a1 =>
        some (false, ())) (fun b1 =>
        some (b1.1.1, ()))
  else
  bif (eqS x0 [100, 111]) then
    obind (lp75_800018 (eqS x0 [100, 111])) fun y0 =>
      osum y0 (fun a1 =>
        some (false, ())) (fun b1 =>
        some (b1.1.1, ()))
  else
  bif (eqS x0 [100, 111, 110, 101]) then
    obind (lp75_800018 (eqS x0 [100, 111, 110, 101])) fun y0 =>
      osum y0 (fun a1 =>
        some (false, ())) (fun b1 =>
        some (b1.1.1, ()))
  else
  bif (eqS x0 [101, 108, 105, 102]) then
    obind (lp75_800018 (eqS x0 [101, 108, 105, 102])) fun y0 =>
      osum y0 (fun a1 =>
        some (false, ())) (fun b1 =>
        some (b1.1.1, ()))
  else
  bif (eqS x0 [101, 108, 115, 101]) then
    obind (lp75_800018 (eqS x0 [101, 108, 115, 101])) fun y0 =>
      osum y0 (fun a1 =>
        some (false, ())) (fun b1 =>
        some (b1.1.1, ()))
  else
  bif (eqS x0 [101, 115, 97, 99]) then
    obind (lp75_800018 (eqS x0 [101, 115, 97, 99])) fun y0 =>
      osum y0 (fun a1 =>
        some (false, ())) (fun b1 =>
        some (b1.1.1, ()))
  else
  bif (eqS x0 [102, 105]) then
    obind (lp75_800018 (eqS x0 [102, 105])) fun y0 =>
      osum y0 (fun a1 =>
        some (false, ())) (fun b1 =>
        some (b1.1.1, ()))
  else
  bif (eqS x0 [102, 111, 114]) then
    obind (lp75_800018 (eqS x0 [102, 111, 114])) fun y0 =>
      osum y0 (fun a1 =>
        some (false, ())) (fun b1 =>
        some (b1.1.1, ()))
  else
  bif (eqS x0 [105, 102]) then
    obind (lp75_800018 (eqS x0 [105, 102])) fun y0 =>
      osum y0 (fun a1 =>
        some (false, ())) (fun b1 =>
        some (b1.1.1, ()))
  else
  bif (eqS x0 [105, 110]) then
    obind (lp75_800018 (eqS x0 [105, 110])) fun y0 =>
      osum y0 (fun a1 =>
        some (false, ())) (fun b1 =>
        some (b1.1.1, ()))
  else
  bif (eqS x0 [116, 104, 101, 110]) then
    obind (lp75_800018 (eqS x0 [116, 104, 101, 110])) fun y0 =>
      osum y0 (fun a1 =>
        some (false, ())) (fun b1 =>
        some (b1.1.1, ()))
  else
  bif (eqS x0 [117, 110, 116, 105, 108]) then
    obind (lp75_800018 (eqS x0 [117, 110, 116, 105, 108])) fun y0 =>
      osum y0 (fun a1 =>
        some (false, ())) (fun b1 =>
        some (b1.1.1, ()))
  else
  obind (lp75_800018 (eqS x0 [119, 104, 105, 108, 101])) fun y0 =>
    osum y0 (fun a1 =>
      some (false, ())) (fun b1 =>
      some (b1.1.1, ()))
def sum75 : Sum := (⟨[.str], [(.bool, false)], fun x => fn75 x.1⟩ : Sum)
noncomputable def env75 : Env := envOf Try.prog tt 75 [] [(800018, k75_800018)] [(800018, ls75_800018)]
theorem step75_800018 {R : Type} (d : Nat) (K : Ex → St → Option R) (v0 : Bool) :
    iter (some k75_800018) (cutF (runD env75 (d + 6) 75 c75_800018)) 1 (mkSt p75_800018 ((v0, ()), ())) K =
      st75_800018 (K (.exit 999999) (mkSt pa75_800018 ((), ()))) (fun r0 => K .ret (mkSt pb75_800018 ((r0, ()), ()))) v0 := by kernel_rfl
theorem it75_800018 {R : Type} (d : Nat) (K : Ex → St → Option R) (v0 : Bool) :
    iter (some k75_800018) (cutF (runD env75 (d + 6) 75 c75_800018)) 1 (mkSt p75_800018 ((v0, ()), ())) K = obind (lp75_800018 v0) fun o => osum o (fun a => K (.exit 999999) (mkSt pa75_800018 a)) fun b => K .ret (mkSt pb75_800018 b) := by
    rw [step75_800018]
    simp only [lp75_800018, st75_800018, obind_cond, obind_none, obind_some, obind_obind, obind_osum]
    try simp only [osum]
theorem ok75_800018 : CutOk env75 75 c75_800018 ls75_800018 := cutBy_ok (by kernel_rfl) fun R d K v o h => ⟨1, (it75_800018 d K (v.1.1)).trans (congrArg (fun o => obind o _) h)⟩
theorem run75 (x0 : List UInt8) : runF env75 75 [.str] [(.bool, false)] (x0, ()) = fn75 x0 := by kernel_rfl
theorem lat75 : loopsAt b75 = [] := by kernel_rfl
theorem cat75 : knownCuts env75 75 b75 = [c75_800018] := by kernel_rfl
theorem lok75 : loopsOk env75 75 b75 := loopsOk_at3 b75 (fun x _ hx => absurd (show false = true from hx) (by decide)) (by rw [lat75]; exact (fun _ h => absurd h List.not_mem_nil)) (knownCuts_ok (by rw [cat75]; exact (List.forall_mem_cons.2 ⟨(fun L h => by rw [show env75.lp 75 (800000 + firstRegion c75_800018) = some (ls75_800018) by kernel_rfl] at h; cases h; exact ok75_800018), (fun _ h => absurd h List.not_mem_nil)⟩)))
theorem env75_ok : EnvOk env75 := envOf_ok tok mixed noGor (sg := []) (fun _ h => absurd h List.not_mem_nil) (fn := Try.f75) (c := b75) (by kernel_rfl) (by kernel_rfl) lok75 rf_ok chk_ok
theorem sum75_ok : SumOk Try.prog 75 sum75 := sum_of_run env75_ok (by decide) fun x y h => (run75 (x.1)).trans h

/-! ### quillwort/rules.maximal -/
def fn73 (x0 : List (Int × (List UInt8) × (Int × Int × Unit))) (x1 : List (Int × Int × Int × Int × Unit)) (x2 : Int) : Option (Bool × Unit) :=
  bif (inI x1 x2) then
    bif (inI x0 (getI x1 (0, (0, (0, (0, ())))) x2).2.1) then
      bif (eqI (getI x0 (0, ([], (0, (0, ())))) (getI x1 (0, (0, (0, (0, ())))) x2).2.1).1 6) then
        obind (fn75 (getI x0 (0, ([], (0, (0, ())))) (getI x1 (0, (0, (0, (0, ())))) x2).2.1).2.1) fun y0 =>
          bif y0.1 then
            some (false, ())
          else
          bif (ltI (getI x1 (0, (0, (0, (0, ())))) x2).2.2.1 (lenI x0)) then
            bif (inI x0 (getI x1 (0, (0, (0, (0, ())))) x2).2.2.1) then
              bif (eqI (getI x0 (0, ([], (0, (0, ())))) (getI x1 (0, (0, (0, (0, ())))) x2).2.2.1).1 6) then
                some (false, ())
              else
              bif (eqI (getI x0 (0, ([], (0, (0, ())))) (getI x1 (0, (0, (0, (0, ())))) x2).2.2.1).1 5) then
                some (false, ())
              else
              obind (fn10 ((getI x0 (0, ([], (0, (0, ())))) (getI x1 (0, (0, (0, (0, ())))) x2).2.2.1).1, ((getI x0 (0, ([], (0, (0, ())))) (getI x1 (0, (0, (0, (0, ())))) x2).2.2.1).2.1, ((getI x0 (0, ([], (0, (0, ())))) (getI x1 (0, (0, (0, (0, ())))) x2).2.2.1).2.2.1, ((getI x0 (0, ([], (0, (0, ())))) (getI x1 (0, (0, (0, (0, ())))) x2).2.2.1).2.2.2.1, ()))))) fun y1 =>
                bif (eqI y1.1 60) then
                  some (false, ())
                else
                obind (fn72 x0 x1 x2) fun y2 =>
                  bif (!y2.2.1) then
                    some (true, ())
                  else
                  obind (fn52 (y2.1.1, (y2.1.2.1, (y2.1.2.2.1, (y2.1.2.2.2.1, ()))))) fun y3 =>
                    some ((!y3.1), ())
            else
            none
          else
          obind (fn72 x0 x1 x2) fun y1 =>
            bif (!y1.2.1) then
              some (true, ())
            else
            obind (fn52 (y1.1.1, (y1.1.2.1, (y1.1.2.2.1, (y1.1.2.2.2.1, ()))))) fun y2 =>
              some ((!y2.1), ())
      else
      bif (ltI (getI x1 (0, (0, (0, (0, ())))) x2).2.2.1 (lenI x0)) then
        bif (inI x0 (getI x1 (0, (0, (0, (0, ())))) x2).2.2.1) then
          bif (eqI (getI x0 (0, ([], (0, (0, ())))) (getI x1 (0, (0, (0, (0, ())))) x2).2.2.1).1 6) then
            some (false, ())
          else
          bif (eqI (getI x0 (0, ([], (0, (0, ())))) (getI x1 (0, (0, (0, (0, ())))) x2).2.2.1).1 5) then
            some (false, ())
          else
          obind (fn10 ((getI x0 (0, ([], (0, (0, ())))) (getI x1 (0, (0, (0, (0, ())))) x2).2.2.1).1, ((getI x0 (0, ([], (0, (0, ())))) (getI x1 (0, (0, (0, (0, ())))) x2).2.2.1).2.1, ((getI x0 (0, ([], (0, (0, ())))) (getI x1 (0, (0, (0, (0, ())))) x2).2.2.1).2.2.1, ((getI x0 (0, ([], (0, (0, ())))) (getI x1 (0, (0, (0, (0, ())))) x2).2.2.1).2.2.2.1, ()))))) fun y0 =>
            bif (eqI y0.1 60) then
              some (false, ())
            else
            obind (fn72 x0 x1 x2) fun y1 =>
              bif (!y1.2.1) then
                some (true, ())
              else
              obind (fn52 (y1.1.1, (y1.1.2.1, (y1.1.2.2.1, (y1.1.2.2.2.1, ()))))) fun y2 =>
                some ((!y2.1), ())
        else
        none
      else
      obind (fn72 x0 x1 x2) fun y0 =>
        bif (!y0.2.1) then
          some (true, ())
        else
        obind (fn52 (y0.1.1, (y0.1.2.1, (y0.1.2.2.1, (y0.1.2.2.2.1, ()))))) fun y1 =>
          some ((!y1.1), ())
    else
    none
  else
  none
def sum73 : Sum := (⟨[.list (.pair (.int .i64) (.pair .str (.pair (.int .i64) (.pair (.int .i64) .unit)))), .list (.pair (.int .i64) (.pair (.int .i64) (.pair (.int .i64) (.pair (.int .i64) .unit)))), .int .i64], [(.bool, false)], fun x => fn73 x.1 x.2.1 x.2.2.1⟩ : Sum)
noncomputable def env73 : Env := envOf Try.prog tt 73 [(10, sum10), (52, sum52), (72, sum72), (75, sum75)] [] []
theorem run73 (x0 : List (Int × (List UInt8) × (Int × Int × Unit))) (x1 : List (Int × Int × Int × Int × Unit)) (x2 : Int) : runF env73 73 [.list (.pair (.int .i64) (.pair .str (.pair (.int .i64) (.pair (.int .i64) .unit)))), .list (.pair (.int .i64) (.pair (.int .i64) (.pair (.int .i64) (.pair (.int .i64) .unit)))), .int .i64] [(.bool, false)] (x0, x1, x2, ()) = fn73 x0 x1 x2 := by kernel_rfl
theorem env73_ok : EnvOk env73 := envOf_ok tok mixed noGor (sg := [(10, sum10), (52, sum52), (72, sum72), (75, sum75)]) (List.forall_mem_cons.2 ⟨(sum10_ok), (List.forall_mem_cons.2 ⟨(sum52_ok), (List.forall_mem_cons.2 ⟨(sum72_ok), (List.forall_mem_cons.2 ⟨(sum75_ok), (fun _ h => absurd h List.not_mem_nil)⟩)⟩)⟩)⟩) (fn := Try.f73) (c := (Try.f73.body).getD .skip) (by kernel_rfl) (by kernel_rfl) (loopsOk_none (fun _ => rfl) (fun _ => rfl) _) rf_ok chk_ok
theorem sum73_ok : SumOk Try.prog 73 sum73 := sum_of_run env73_ok (by decide) fun x y h => (run73 (x.1) (x.2.1) (x.2.2.1)).trans h

/-! ### quillwort/class.IsName -/
def fn74 (x0 : List UInt8) : Option (Bool × Unit) :=
  bif (!(eqS x0 [])) then
    obind (fn78 x0 0) fun y0 =>
      some ((eqI y0.1 (lenI x0)), ())
  else
  some (false, ())
def sum74 : Sum := (⟨[.str], [(.bool, false)], fun x => fn74 x.1⟩ : Sum)
noncomputable def env74 : Env := envOf Try.prog tt 74 [(78, sum78)] [] []
theorem run74 (x0 : List UInt8) : runF env74 74 [.str] [(.bool, false)] (x0, ()) = fn74 x0 := by kernel_rfl
theorem env74_ok : EnvOk env74 := envOf_ok tok mixed noGor (sg := [(78, sum78)]) (List.forall_mem_cons.2 ⟨(sum78_ok), (fun _ h => absurd h List.not_mem_nil)⟩) (fn := Try.f74) (c := (Try.f74.body).getD .skip) (by kernel_rfl) (by kernel_rfl) (loopsOk_none (fun _ => rfl) (fun _ => rfl) _) rf_ok chk_ok
theorem sum74_ok : SumOk Try.prog 74 sum74 := sum_of_run env74_ok (by decide) fun x y h => (run74 (x.1)).trans h

/-! ### quillwort/rules.besides -/
def fn55 (x0 : List (Int × (List UInt8) × (Int × Int × Unit))) (x1 : List (Int × Int × Int × Int × Unit)) (x2 : Int) : Option (Bool × Unit) :=
  bif (inI x1 x2) then
    bif (inI [63, 80, 76, 65, 73, 83, 88, 87, 82, 66, 85, 70, 72, 79, 67, 84, 78, 69, 77] (getI x1 (0, (0, (0, (0, ())))) x2).1) then
      obind (fn39 [66, 85, 70, 72, 79, 67, 78] (byteAt [63, 80, 76, 65, 73, 83, 88, 87, 82, 66, 85, 70, 72, 79, 67, 84, 78, 69, 77] (getI x1 (0, (0, (0, (0, ())))) x2).1)) fun y0 =>
        bif (leI 0 y0.1) then
          obind (fn22 x1 x2) fun y1 =>
            bif (leI 200 y1.1) then
              some (false, ())
            else
            obind (fn72 x0 x1 x2) fun y2 =>
              bif (eqI (getI x1 (0, (0, (0, (0, ())))) x2).1 5) then
                obind (fn73 x0 x1 x2) fun y3 =>
                  some (y3.1, ())
              else
              bif (eqI (getI x1 (0, (0, (0, (0, ())))) x2).1 16) then
                obind (fn74 y2.1.2.1) fun y3 =>
                  bif y3.1 then
                    obind (fn75 y2.1.2.1) fun y4 =>
                      some ((!y4.1), ())
                  else
                  some (false, ())
              else
              bif (eqI (getI x1 (0, (0, (0, (0, ())))) x2).1 13) then
                obind (fn74 y2.1.2.1) fun y3 =>
                  some (y3.1, ())
              else
              bif (eqI (getI x1 (0, (0, (0, (0, ())))) x2).1 15) then
                bif (inI x0 (getI x1 (0, (0, (0, (0, ())))) x2).2.1) then
                  obind (fn10 (getI x0 (0, ([], (0, (0, ())))) (getI x1 (0, (0, (0, (0, ())))) x2).2.1)) fun y3 =>
                    bif (eqI y3.1 40) then
                      some (true, ())
                    else
                    some ((!(eqS y2.1.2.1 [101, 115, 97, 99])), ())
                else
                none
              else
              some (true, ())
        else
        obind (fn72 x0 x1 x2) fun y1 =>
          bif (eqI (getI x1 (0, (0, (0, (0, ())))) x2).1 5) then
            obind (fn73 x0 x1 x2) fun y2 =>
              some (y2.1, ())
          else
          bif (eqI (getI x1 (0, (0, (0, (0, ())))) x2).1 16) then
            obind (fn74 y1.1.2.1) fun y2 =>
              bif y2.1 then
                obind (fn75 y1.1.2.1) fun y3 =>
                  some ((!y3.1), ())
              else
              some (false, ())
          else
          bif (eqI (getI x1 (0, (0, (0, (0, ())))) x2).1 13) then
            obind (fn74 y1.1.2.1) fun y2 =>
              some (y2.1, ())
          else
          bif (eqI (getI x1 (0, (0, (0, (0, ())))) x2).1 15) then
            bif (inI x0 (getI x1 (0, (0, (0, (0, ())))) x2).2.1) then
              obind (fn10 (getI x0 (0, ([], (0, (0, ())))) (getI x1 (0, (0, (0, (0, ())))) x2).2.1)) fun y2 =>
                bif (eqI y2.1 40) then
                  some (true, ())
                else
                some ((!(eqS y1.1.2.1 [101, 115, 97, 99])), ())
            else
            none
          else
          some (true, ())
    else
    none
  else
  none
def sum55 : Sum := (⟨[.list (.pair (.int .i64) (.pair .str (.pair (.int .i64) (.pair (.int .i64) .unit)))), .list (.pair (.int .i64) (.pair (.int .i64) (.pair (.int .i64) (.pair (.int .i64) .unit)))), .int .i64], [(.bool, false)], fun x => fn55 x.1 x.2.1 x.2.2.1⟩ : Sum)
noncomputable def env55 : Env := envOf Try.prog tt 55 [(10, sum10), (22, sum22), (39, sum39), (72, sum72), (73, sum73), (74, sum74), (75, sum75)] [] []
theorem run55 (x0 : List (Int × (List UInt8) × (Int × Int × Unit))) (x1 : List (Int × Int × Int × Int × Unit)) (x2 : Int) : runF env55 55 [.list (.pair (.int .i64) (.pair .str (.pair (.int .i64) (.pair (.int .i64) .unit)))), .list (.pair (.int .i64) (.pair (.int .i64) (.pair (.int .i64) (.pair (.int .i64) .unit)))), .int .i64] [(.bool, false)] (x0, x1, x2, ()) = fn55 x0 x1 x2 := by kernel_rfl
theorem env55_ok : EnvOk env55 := envOf_ok tok mixed noGor (sg := [(10, sum10), (22, sum22), (39, sum39), (72, sum72), (73, sum73), (74, sum74), (75, sum75)]) (List.forall_mem_cons.2 ⟨(sum10_ok), (List.forall_mem_cons.2 ⟨(sum22_ok), (List.forall_mem_cons.2 ⟨(sum39_ok), (List.forall_mem_cons.2 ⟨(sum72_ok), (List.forall_mem_cons.2 ⟨(sum73_ok), (List.forall_mem_cons.2 ⟨(sum74_ok), (List.forall_mem_cons.2 ⟨(sum75_ok), (fun _ h => absurd h List.not_mem_nil)⟩)⟩)⟩)⟩)⟩)⟩)⟩) (fn := Try.f55) (c := (Try.f55.body).getD .skip) (by kernel_rfl) (by kernel_rfl) (loopsOk_none (fun _ => rfl) (fun _ => rfl) _) rf_ok chk_ok
theorem sum55_ok : SumOk Try.prog 55 sum55 := sum_of_run env55_ok (by decide) fun x y h => (run55 (x.1) (x.2.1) (x.2.2.1)).trans h

/-! ### quillwort/rules.fits -/
def fn36 (x0 : List (Int × (List UInt8) × (Int × Int × Unit))) (x1 : List (Int × Int × Int × Int × Unit)) (x2 : Int) : Option (Bool × Unit) :=
  bif (inI x1 x2) then
    bif (eqI (getI x1 (0, (0, (0, (0, ())))) x2).2.1 (getI x1 (0, (0, (0, (0, ())))) x2).2.2.1) then
      bif (!(eqI (getI x1 (0, (0, (0, (0, ())))) x2).1 1)) then
        some (false, ())
      else
      bif (eqI (getI x1 (0, (0, (0, (0, ())))) x2).1 7) then
        bif (!(eqI (subK .i64 (getI x1 (0, (0, (0, (0, ())))) x2).2.2.1 (getI x1 (0, (0, (0, (0, ())))) x2).2.1) 1)) then
          some (false, ())
        else
        obind (fn51 x1 x2) fun y0 =>
          bif (ltI 0 (lenI y0.1)) then
            some (false, ())
          else
          bif (inI x0 (getI x1 (0, (0, (0, (0, ())))) x2).2.1) then
            bif (!(eqI (getI x0 (0, ([], (0, (0, ())))) (getI x1 (0, (0, (0, (0, ())))) x2).2.1).1 6)) then
              some (false, ())
            else
            bif (eqI (getI x1 (0, (0, (0, (0, ())))) x2).1 7) then
              some (true, ())
            else
            bif (inI x0 (getI x1 (0, (0, (0, (0, ())))) x2).2.1) then
              obind (fn52 (getI x0 (0, ([], (0, (0, ())))) (getI x1 (0, (0, (0, (0, ())))) x2).2.1)) fun y1 =>
                some (y1.1, ())
            else
            none
          else
          none
      else
      bif (eqI (getI x1 (0, (0, (0, (0, ())))) x2).1 6) then
        bif (!(eqI (subK .i64 (getI x1 (0, (0, (0, (0, ())))) x2).2.2.1 (getI x1 (0, (0, (0, (0, ())))) x2).2.1) 1)) then
          some (false, ())
        else
        obind (fn51 x1 x2) fun y0 =>
          bif (ltI 0 (lenI y0.1)) then
            some (false, ())
          else
          bif (inI x0 (getI x1 (0, (0, (0, (0, ())))) x2).2.1) then
            bif (!(eqI (getI x0 (0, ([], (0, (0, ())))) (getI x1 (0, (0, (0, (0, ())))) x2).2.1).1 6)) then
              some (false, ())
            else
            bif (eqI (getI x1 (0, (0, (0, (0, ())))) x2).1 7) then
              some (true, ())
            else
            bif (inI x0 (getI x1 (0, (0, (0, (0, ())))) x2).2.1) then
              obind (fn52 (getI x0 (0, ([], (0, (0, ())))) (getI x1 (0, (0, (0, (0, ())))) x2).2.1)) fun y1 =>
                some (y1.1, ())
            else
            none
          else
          none
      else
      obind (fn54 x0 x1 x2) fun y0 =>
        obind (fn53 (getI x1 (0, (0, (0, (0, ())))) x2).1 y0.1) fun y1 =>
          bif y1.1 then
            obind (fn55 x0 x1 x2) fun y2 =>
              some (y2.1, ())
          else
          some (false, ())
    else
    bif (eqI (getI x1 (0, (0, (0, (0, ())))) x2).1 7) then
      bif (!(eqI (subK .i64 (getI x1 (0, (0, (0, (0, ())))) x2).2.2.1 (getI x1 (0, (0, (0, (0, ())))) x2).2.1) 1)) then
        some (false, ())
      else
      obind (fn51 x1 x2) fun y0 =>
        bif (ltI 0 (lenI y0.1)) then
          some (false, ())
        else
        bif (inI x0 (getI x1 (0, (0, (0, (0, ())))) x2).2.1) then
          bif (!(eqI (getI x0 (0, ([], (0, (0, ())))) (getI x1 (0, (0, (0, (0, ())))) x2).2.1).1 6)) then
            some (false, ())
          else
          bif (eqI (getI x1 (0, (0, (0, (0, ())))) x2).1 7) then
            some (true, ())
          else
          bif (inI x0 (getI x1 (0, (0, (0, (0, ())))) x2).2.1) then
            obind (fn52 (getI x0 (0, ([], (0, (0, ())))) (getI x1 (0, (0, (0, (0, ())))) x2).2.1)) fun y1 =>
              some (y1.1, ())
          else
          none
        else
        none
    else
    bif (eqI (getI x1 (0, (0, (0, (0, ())))) x2).1 6) then
      bif (!(eqI (subK .i64 (getI x1 (0, (0, (0, (0, ())))) x2).2.2.1 (getI x1 (0, (0, (0, (0, ())))) x2).2.1) 1)) then
        some (false, ())
      else
      obind (fn51 x1 x2) fun y0 =>
        bif (ltI 0 (lenI y0.1)) then
          some (false, ())
        else
        bif (inI x0 (getI x1 (0, (0, (0, (0, ())))) x2).2.1) then
          bif (!(eqI (getI x0 (0, ([], (0, (0, ())))) (getI x1 (0, (0, (0, (0, ())))) x2).2.1).1 6)) then
            some (false, ())
          else
          bif (eqI (getI x1 (0, (0, (0, (0, ())))) x2).1 7) then
            some (true, ())
          else
          bif (inI x0 (getI x1 (0, (0, (0, (0, ())))) x2).2.1) then
            obind (fn52 (getI x0 (0, ([], (0, (0, ())))) (getI x1 (0, (0, (0, (0, ())))) x2).2.1)) fun y1 =>
              some (y1.1, ())
          else
          none
        else
        none
    else
    obind (fn54 x0 x1 x2) fun y0 =>
      obind (fn53 (getI x1 (0, (0, (0, (0, ())))) x2).1 y0.1) fun y1 =>
        bif y1.1 then
          obind (fn55 x0 x1 x2) fun y2 =>
            some (y2.1, ())
        else
        some (false, ())
  else
  none
def sum36 : Sum := (⟨[.list (.pair (.int .i64) (.pair .str (.pair (.int .i64) (.pair (.int .i64) .unit)))), .list (.pair (.int .i64) (.pair (.int .i64) (.pair (.int .i64) (.pair (.int .i64) .unit)))), .int .i64], [(.bool, false)], fun x => fn36 x.1 x.2.1 x.2.2.1⟩ : Sum)
noncomputable def env36 : Env := envOf Try.prog tt 36 [(51, sum51), (52, sum52), (53, sum53), (54, sum54), (55, sum55)] [] []
theorem run36 (x0 : List (Int × (List UInt8) × (Int × Int × Unit))) (x1 : List (Int × Int × Int × Int × Unit)) (x2 : Int) : runF env36 36 [.list (.pair (.int .i64) (.pair .str (.pair (.int .i64) (.pair (.int .i64) .unit)))), .list (.pair (.int .i64) (.pair (.int .i64) (.pair (.int .i64) (.pair (.int .i64) .unit)))), .int .i64] [(.bool, false)] (x0, x1, x2, ()) = fn36 x0 x1 x2 := by kernel_rfl
theorem env36_ok : EnvOk env36 := envOf_ok tok mixed noGor (sg := [(51, sum51), (52, sum52), (53, sum53), (54, sum54), (55, sum55)]) (List.forall_mem_cons.2 ⟨(sum51_ok), (List.forall_mem_cons.2 ⟨(sum52_ok), (List.forall_mem_cons.2 ⟨(sum53_ok), (List.forall_mem_cons.2 ⟨(sum54_ok), (List.forall_mem_cons.2 ⟨(sum55_ok), (fun _ h => absurd h List.not_mem_nil)⟩)⟩)⟩)⟩)⟩) (fn := Try.f36) (c := (Try.f36.body).getD .skip) (by kernel_rfl) (by kernel_rfl) (loopsOk_none (fun _ => rfl) (fun _ => rfl) _) rf_ok chk_ok
theorem sum36_ok : SumOk Try.prog 36 sum36 := sum_of_run env36_ok (by decide) fun x y h => (run36 (x.1) (x.2.1) (x.2.2.1)).trans h

/-! ### quillwort/rules.First -/
noncomputable def b17 : Code := (Try.f17.body).getD .skip
noncomputable def c17_5 : Code := cA (cA (cB (cA (cB (cB (cB (cA (cB (b17)))))))))
def k17_5 : Keep := ⟨[0, 1, 5, 12, 13, 100005], [], [5], [], [4], []⟩
def p17_5 : SP := ⟨us [.v (.list (.pair (.int .i64) (.pair .str (.pair (.int .i64) (.pair (.int .i64) .unit))))), .v (.list (.pair (.int .i64) (.pair (.int .i64) (.pair (.int .i64) (.pair (.int .i64) .unit))))), .u, .u, .u, .v (.int .i64), .u, .u, .u, .u, .u, .u, .v (.int .i64), .v (.int .i64)] 10, []⟩
def pa17_5 : SP := ⟨us [.u, .u, .u, .u, .u, .v (.int .i64)] 18, []⟩
def pb17_5 : SP := ⟨us [.u, .u, .u, .u, .v (.int .i64)] 19, []⟩
def st17_5 {γ : Type} (rec : (List (Int × (List UInt8) × (Int × Int × Unit))) → (List (Int × Int × Int × Int × Unit)) → Int → Int → Int → Option γ) (kE : Int → Option γ) (kR : Int → Option γ) (v0 : List (Int × (List UInt8) × (Int × Int × Unit))) (v1 : List (Int × Int × Int × Int × Unit)) (v2 : Int) (v3 : Int) (v4 : Int) : Option γ :=
  bif (ltI v4 v3) then
    obind (fn36 v0 v1 v4) fun y0 =>
      bif (!y0.1) then
        kE v4
      else
      rec v0 v1 v2 v3 (addK .i64 v4 1)
  else
  kE v2
def lp17_5 : Nat → (List (Int × (List UInt8) × (Int × Int × Unit))) → (List (Int × Int × Int × Int × Unit)) → Int → Int → Int → Option (pa17_5.den ⊕ pb17_5.den)
  | 0, _, _, _, _, _ => none
  | n + 1, v0, v1, v2, v3, v4 => st17_5 (lp17_5 n) (fun e0 => some (.inl ((e0, ()), ()))) (fun r0 => some (.inr ((r0, ()), ()))) v0 v1 v2 v3 v4
noncomputable def ls17_5 : LoopSum := loopBy k17_5 p17_5 pa17_5 pb17_5 (.exit 0) (fun v => lp17_5 fuelN v.1.1 v.1.2.1 v.1.2.2.1 v.1.2.2.2.1 v.1.2.2.2.2.1) 6
def fn17 (x0 : List (Int × (List UInt8) × (Int × Int × Unit))) (x1 : List (Int × Int × Int × Int × Unit)) : Option (Int × Unit) :=
  obind (fn29 x0 x1 0) fun y0 =>
    bif (!y0.1) then
      some ((-1), ())
    else
    obind (lp17_5 fuelN x0 x1 (-1) (lenI x1) 0) fun y1 =>
      osum y1 (fun a2 =>
        some (a2.1.1, ())) (fun b2 =>
        some (b2.1.1, ()))
def sum17 : Sum := (⟨[.list (.pair (.int .i64) (.pair .str (.pair (.int .i64) (.pair (.int .i64) .unit)))), .list (.pair (.int .i64) (.pair (.int .i64) (.pair (.int .i64) (.pair (.int .i64) .unit))))], [(.int .i64, false)], fun x => fn17 x.1 x.2.1⟩ : Sum)
noncomputable def env17 : Env := envOf Try.prog tt 17 [(29, sum29), (36, sum36)] [(5, k17_5)] [(5, ls17_5)]
theorem step17_5 {R : Type} (d : Nat) (n : Nat) (K : Ex → St → Option R) (v0 : List (Int × (List UInt8) × (Int × Int × Unit))) (v1 : List (Int × Int × Int × Int × Unit)) (v2 : Int) (v3 : Int) (v4 : Int) :
    iter (some k17_5) (runD env17 (d + 6) 17 c17_5) (n + 1) (mkSt p17_5 ((v0, v1, v2, v3, v4, ()), ())) K =
      st17_5 (fun v0 v1 v2 v3 v4 => iter (some k17_5) (runD env17 (d + 6) 17 c17_5) n (mkSt p17_5 ((v0, v1, v2, v3, v4, ()), ())) K) (fun e0 => K (.exit 0) (mkSt pa17_5 ((e0, ()), ()))) (fun r0 => K .ret (mkSt pb17_5 ((r0, ()), ()))) v0 v1 v2 v3 v4 := by kernel_rfl
theorem it17_5 {R : Type} (d : Nat) (K : Ex → St → Option R) : ∀ (n : Nat) (v0 : List (Int × (List UInt8) × (Int × Int × Unit))) (v1 : List (Int × Int × Int × Int × Unit)) (v2 : Int) (v3 : Int) (v4 : Int),
    iter (some k17_5) (runD env17 (d + 6) 17 c17_5) n (mkSt p17_5 ((v0, v1, v2, v3, v4, ()), ())) K = obind (lp17_5 n v0 v1 v2 v3 v4) fun o => osum o (fun a => K (.exit 0) (mkSt pa17_5 a)) fun b => K .ret (mkSt pb17_5 b)
  | 0, _, _, _, _, _ => rfl
  | n + 1, v0, v1, v2, v3, v4 => by
    rw [step17_5]
    simp only [it17_5 d K n, lp17_5, st17_5, obind_cond, obind_none, obind_some, obind_obind, obind_osum]
    try simp only [osum]
theorem ok17_5 : LoopOk env17 17 c17_5 ls17_5 := loopBy_ok (by kernel_rfl) fun R d K v o h => ⟨fuelN, (it17_5 d K fuelN (v.1.1) (v.1.2.1) (v.1.2.2.1) (v.1.2.2.2.1) (v.1.2.2.2.2.1)).trans (congrArg (fun o => obind o _) h)⟩
theorem run17 (x0 : List (Int × (List UInt8) × (Int × Int × Unit))) (x1 : List (Int × Int × Int × Int × Unit)) : runF env17 17 [.list (.pair (.int .i64) (.pair .str (.pair (.int .i64) (.pair (.int .i64) .unit)))), .list (.pair (.int .i64) (.pair (.int .i64) (.pair (.int .i64) (.pair (.int .i64) .unit))))] [(.int .i64, false)] (x0, x1, ()) = fn17 x0 x1 := by kernel_rfl
theorem lat17 : loopsAt b17 = [c17_5] := by kernel_rfl
theorem lok17 : loopsOk env17 17 b17 := loopsOk_at b17 (fun _ => rfl) (by rw [lat17]; exact (List.forall_mem_cons.2 ⟨(fun L h => by rw [show env17.lp 17 (firstRegion c17_5) = some ls17_5 by kernel_rfl] at h; cases h; exact ok17_5), (fun _ h => absurd h List.not_mem_nil)⟩))
theorem env17_ok : EnvOk env17 := envOf_ok tok mixed noGor (sg := [(29, sum29), (36, sum36)]) (List.forall_mem_cons.2 ⟨(sum29_ok), (List.forall_mem_cons.2 ⟨(sum36_ok), (fun _ h => absurd h List.not_mem_nil)⟩)⟩) (fn := Try.f17) (c := b17) (by kernel_rfl) (by kernel_rfl) lok17 rf_ok chk_ok
theorem sum17_ok : SumOk Try.prog 17 sum17 := sum_of_run env17_ok (by decide) fun x y h => (run17 (x.1) (x.2.1)).trans h

/-! ### quillwort/rules.Right -/
def fn13 (x0 : List (Int × (List UInt8) × (Int × Int × Unit))) (x1 : List (Int × Int × Int × Int × Unit)) : Option (Bool × Unit) :=
  obind (fn29 x0 x1 0) fun y0 =>
    bif y0.1 then
      bif (inI x1 0) then
        bif (eqI (getI x1 (0, (0, (0, (0, ())))) 0).1 1) then
          obind (fn17 x0 x1) fun y1 =>
            some ((ltI y1.1 0), ())
        else
        some (false, ())
      else
      none
    else
    some (false, ())
def sum13 : Sum := (⟨[.list (.pair (.int .i64) (.pair .str (.pair (.int .i64) (.pair (.int .i64) .unit)))), .list (.pair (.int .i64) (.pair (.int .i64) (.pair (.int .i64) (.pair (.int .i64) .unit))))], [(.bool, false)], fun x => fn13 x.1 x.2.1⟩ : Sum)
noncomputable def env13 : Env := envOf Try.prog tt 13 [(17, sum17), (29, sum29)] [] []
theorem run13 (x0 : List (Int × (List UInt8) × (Int × Int × Unit))) (x1 : List (Int × Int × Int × Int × Unit)) : runF env13 13 [.list (.pair (.int .i64) (.pair .str (.pair (.int .i64) (.pair (.int .i64) .unit)))), .list (.pair (.int .i64) (.pair (.int .i64) (.pair (.int .i64) (.pair (.int .i64) .unit))))] [(.bool, false)] (x0, x1, ()) = fn13 x0 x1 := by kernel_rfl
theorem env13_ok : EnvOk env13 := envOf_ok tok mixed noGor (sg := [(17, sum17), (29, sum29)]) (List.forall_mem_cons.2 ⟨(sum17_ok), (List.forall_mem_cons.2 ⟨(sum29_ok), (fun _ h => absurd h List.not_mem_nil)⟩)⟩) (fn := Try.f13) (c := (Try.f13.body).getD .skip) (by kernel_rfl) (by kernel_rfl) (loopsOk_none (fun _ => rfl) (fun _ => rfl) _) rf_ok chk_ok
theorem sum13_ok : SumOk Try.prog 13 sum13 := sum_of_run env13_ok (by decide) fun x y h => (run13 (x.1) (x.2.1)).trans h

/-! ### quillwort/quillwortref11.Above -/
noncomputable def b30 : Code := (Try.f30.body).getD .skip
noncomputable def c30_1 : Code := cA (cA (cA (cB (b30))))
def k30_1 : Keep := ⟨[0, 1, 2, 100001], [], [], [], [6], []⟩
def p30_1 : SP := ⟨us [.v (.list (.pair (.int .i64) (.pair (.int .i64) (.pair (.int .i64) (.pair (.int .i64) .unit))))), .v (.int .i64), .v (.int .i64)] 14, []⟩
def pa30_1 : SP := ⟨us [] 17, []⟩
def pb30_1 : SP := ⟨us [.u, .u, .u, .u, .u, .u, .v .bool] 10, []⟩
def st30_1 {γ : Type} (rec : (List (Int × Int × Int × Int × Unit)) → Int → Int → Option γ) (kE : Option γ) (kR : Bool → Option γ) (v0 : List (Int × Int × Int × Int × Unit)) (v1 : Int) (v2 : Int) : Option γ :=
  bif (leI 0 v2) then
    bif (eqI v1 v2) then
      kR true
    else
    bif (inI v0 v2) then
      rec v0 v1 (getI v0 (0, (0, (0, (0, ())))) v2).2.2.2.1
    else
    none
  else
  kE 
def lp30_1 : Nat → (List (Int × Int × Int × Int × Unit)) → Int → Int → Option (pa30_1.den ⊕ pb30_1.den)
  | 0, _, _, _ => none
  | n + 1, v0, v1, v2 => st30_1 (lp30_1 n) (some (.inl ((), ()))) (fun r0 => some (.inr ((r0, ()), ()))) v0 v1 v2
noncomputable def ls30_1 : LoopSum := loopBy k30_1 p30_1 pa30_1 pb30_1 (.exit 0) (fun v => lp30_1 fuelN v.1.1 v.1.2.1 v.1.2.2.1) 6
def fn30 (x0 : List (Int × Int × Int × Int × Unit)) (x1 : Int) (x2 : Int) : Option (Bool × Unit) :=
  obind (lp30_1 fuelN x0 x1 x2) fun y0 =>
    osum y0 (fun a1 =>
      some (false, ())) (fun b1 =>
      some (b1.1.1, ()))
def sum30 : Sum := (⟨[.list (.pair (.int .i64) (.pair (.int .i64) (.pair (.int .i64) (.pair (.int .i64) .unit)))), .int .i64, .int .i64], [(.bool, false)], fun x => fn30 x.1 x.2.1 x.2.2.1⟩ : Sum)
noncomputable def env30 : Env := envOf Try.prog tt 30 [] [(1, k30_1)] [(1, ls30_1)]
theorem step30_1 {R : Type} (d : Nat) (n : Nat) (K : Ex → St → Option R) (v0 : List (Int × Int × Int × Int × Unit)) (v1 : Int) (v2 : Int) :
    iter (some k30_1) (runD env30 (d + 6) 30 c30_1) (n + 1) (mkSt p30_1 ((v0, v1, v2, ()), ())) K =
      st30_1 (fun v0 v1 v2 => iter (some k30_1) (runD env30 (d + 6) 30 c30_1) n (mkSt p30_1 ((v0, v1, v2, ()), ())) K) (K (.exit 0) (mkSt pa30_1 ((), ()))) (fun r0 => K .ret (mkSt pb30_1 ((r0, ()), ()))) v0 v1 v2 := by kernel_rfl
theorem it30_1 {R : Type} (d : Nat) (K : Ex → St → Option R) : ∀ (n : Nat) (v0 : List (Int × Int × Int × Int × Unit)) (v1 : Int) (v2 : Int),
    iter (some k30_1) (runD env30 (d + 6) 30 c30_1) n (mkSt p30_1 ((v0, v1, v2, ()), ())) K = obind (lp30_1 n v0 v1 v2) fun o => osum o (fun a => K (.exit 0) (mkSt pa30_1 a)) fun b => K .ret (mkSt pb30_1 b)
  | 0, _, _, _ => rfl
  | n + 1, v0, v1, v2 => by
    rw [step30_1]
    simp only [it30_1 d K n, lp30_1, st30_1, obind_cond, obind_none, obind_some, obind_obind, obind_osum]
    try simp only [osum]
theorem ok30_1 : LoopOk env30 30 c30_1 ls30_1 := loopBy_ok (by kernel_rfl) fun R d K v o h => ⟨fuelN, (it30_1 d K fuelN (v.1.1) (v.1.2.1) (v.1.2.2.1)).trans (congrArg (fun o => obind o _) h)⟩
theorem run30 (x0 : List (Int × Int × Int × Int × Unit)) (x1 : Int) (x2 : Int) : runF env30 30 [.list (.pair (.int .i64) (.pair (.int .i64) (.pair (.int .i64) (.pair (.int .i64) .unit)))), .int .i64, .int .i64] [(.bool, false)] (x0, x1, x2, ()) = fn30 x0 x1 x2 := by kernel_rfl
theorem lat30 : loopsAt b30 = [c30_1] := by kernel_rfl
theorem lok30 : loopsOk env30 30 b30 := loopsOk_at b30 (fun _ => rfl) (by rw [lat30]; exact (List.forall_mem_cons.2 ⟨(fun L h => by rw [show env30.lp 30 (firstRegion c30_1) = some ls30_1 by kernel_rfl] at h; cases h; exact ok30_1), (fun _ h => absurd h List.not_mem_nil)⟩))
theorem env30_ok : EnvOk env30 := envOf_ok tok mixed noGor (sg := []) (fun _ h => absurd h List.not_mem_nil) (fn := Try.f30) (c := b30) (by kernel_rfl) (by kernel_rfl) lok30 rf_ok chk_ok
theorem sum30_ok : SumOk Try.prog 30 sum30 := sum_of_run env30_ok (by decide) fun x y h => (run30 (x.1) (x.2.1) (x.2.2.1)).trans h

/-! ### quillwort/quillwortref11.Right -/
noncomputable def b15 : Code := (Try.f15.body).getD .skip
noncomputable def c15_13 : Code := cA (cA (cB (cB (cB (cB (cB (cA (cA (cB (cA (cA (cB (cA (cB (cB (b15))))))))))))))))
noncomputable def c15_4 : Code := cA (cA (cB (cA (cB (cB (b15))))))
def k15_13 : Keep := ⟨[0, 5, 6, 7, 100013], [], [0, 5], [], [4], []⟩
def k15_4 : Keep := ⟨[0, 5, 100004], [], [], [], [4], []⟩
def p15_13 : SP := ⟨us [.v (.list (.pair (.int .i64) (.pair (.int .i64) (.pair (.int .i64) (.pair (.int .i64) .unit))))), .u, .u, .u, .u, .v (.int .i64), .v (.int .i64), .v (.int .i64)] 131, []⟩
def pa15_13 : SP := ⟨us [.v (.list (.pair (.int .i64) (.pair (.int .i64) (.pair (.int .i64) (.pair (.int .i64) .unit))))), .u, .u, .u, .u, .v (.int .i64)] 133, []⟩
def pb15_13 : SP := ⟨us [.u, .u, .u, .u, .v .bool] 134, []⟩
def st15_13 {γ : Type} (rec : (List (Int × Int × Int × Int × Unit)) → Int → Int → Int → Option γ) (kE : (List (Int × Int × Int × Int × Unit)) → Int → Option γ) (kR : Bool → Option γ) (v0 : List (Int × Int × Int × Int × Unit)) (v1 : Int) (v2 : Int) (v3 : Int) : Option γ :=
  bif (ltI v3 v1) then
    bif (inI v0 v3) then
      bif (eqI (getI v0 (0, (0, (0, (0, ())))) v3).2.2.2.1 v2) then
        bif (inI v0 v3) then
          bif (inI v0 v1) then
            bif (ltI (getI v0 (0, (0, (0, (0, ())))) v1).2.1 (getI v0 (0, (0, (0, (0, ())))) v3).2.2.1) then
              kR false
            else
            rec v0 v1 v2 (addK .i64 v3 1)
          else
          none
        else
        none
      else
      rec v0 v1 v2 (addK .i64 v3 1)
    else
    none
  else
  kE v0 v1
def lp15_13 : Nat → (List (Int × Int × Int × Int × Unit)) → Int → Int → Int → Option (pa15_13.den ⊕ pb15_13.den)
  | 0, _, _, _, _ => none
  | n + 1, v0, v1, v2, v3 => st15_13 (lp15_13 n) (fun e0 e1 => some (.inl ((e0, e1, ()), ()))) (fun r0 => some (.inr ((r0, ()), ()))) v0 v1 v2 v3
noncomputable def ls15_13 : LoopSum := loopBy k15_13 p15_13 pa15_13 pb15_13 (.exit 2) (fun v => lp15_13 fuelN v.1.1 v.1.2.1 v.1.2.2.1 v.1.2.2.2.1) 6
def p15_4 : SP := ⟨us [.v (.list (.pair (.int .i64) (.pair (.int .i64) (.pair (.int .i64) (.pair (.int .i64) .unit))))), .u, .u, .u, .u, .v (.int .i64)] 133, []⟩
def pa15_4 : SP := ⟨us [] 139, []⟩
def pb15_4 : SP := ⟨us [.u, .u, .u, .u, .v .bool] 134, []⟩
def st15_4 {γ : Type} (rec : (List (Int × Int × Int × Int × Unit)) → Int → Option γ) (kE : Option γ) (kR : Bool → Option γ) (v0 : List (Int × Int × Int × Int × Unit)) (v1 : Int) : Option γ :=
  bif (ltI v1 (lenI v0)) then
    bif (inI v0 v1) then
      bif (ltI (getI v0 (0, (0, (0, (0, ())))) v1).1 1) then
        kR false
      else
      bif (inI v0 v1) then
        bif (ltI 18 (getI v0 (0, (0, (0, (0, ())))) v1).1) then
          kR false
        else
        bif (inI v0 v1) then
          bif (inI v0 v1) then
            bif (ltI (getI v0 (0, (0, (0, (0, ())))) v1).2.2.1 (getI v0 (0, (0, (0, (0, ())))) v1).2.1) then
              kR false
            else
            bif (eqI v1 0) then
              rec v0 (addK .i64 v1 1)
            else
            bif (inI v0 v1) then
              bif (ltI (getI v0 (0, (0, (0, (0, ())))) v1).2.2.2.1 0) then
                kR false
              else
              bif (leI v1 (getI v0 (0, (0, (0, (0, ())))) v1).2.2.2.1) then
                kR false
              else
              obind (fn30 v0 (getI v0 (0, (0, (0, (0, ())))) v1).2.2.2.1 (subK .i64 v1 1)) fun y0 =>
                bif (!y0.1) then
                  kR false
                else
                bif (inI v0 v1) then
                  bif (inI v0 (getI v0 (0, (0, (0, (0, ())))) v1).2.2.2.1) then
                    bif (ltI (getI v0 (0, (0, (0, (0, ())))) v1).2.1 (getI v0 (0, (0, (0, (0, ())))) (getI v0 (0, (0, (0, (0, ())))) v1).2.2.2.1).2.1) then
                      kR false
                    else
                    bif (inI v0 v1) then
                      bif (inI v0 (getI v0 (0, (0, (0, (0, ())))) v1).2.2.2.1) then
                        bif (ltI (getI v0 (0, (0, (0, (0, ())))) (getI v0 (0, (0, (0, (0, ())))) v1).2.2.2.1).2.2.1 (getI v0 (0, (0, (0, (0, ())))) v1).2.2.1) then
                          kR false
                        else
                        obind (lp15_13 fuelN v0 v1 (getI v0 (0, (0, (0, (0, ())))) v1).2.2.2.1 1) fun y1 =>
                          osum y1 (fun a2 =>
                            rec a2.1.1 (addK .i64 a2.1.2.1 1)) (fun b2 =>
                            kR b2.1.1)
                      else
                      none
                    else
                    none
                  else
                  none
                else
                none
            else
            none
          else
          none
        else
        none
      else
      none
    else
    none
  else
  kE 
def lp15_4 : Nat → (List (Int × Int × Int × Int × Unit)) → Int → Option (pa15_4.den ⊕ pb15_4.den)
  | 0, _, _ => none
  | n + 1, v0, v1 => st15_4 (lp15_4 n) (some (.inl ((), ()))) (fun r0 => some (.inr ((r0, ()), ()))) v0 v1
noncomputable def ls15_4 : LoopSum := loopBy k15_4 p15_4 pa15_4 pb15_4 (.exit 0) (fun v => lp15_4 fuelN v.1.1 v.1.2.1) 12
def fn15 (x0 : List (Int × Int × Int × Int × Unit)) (x1 : Int) : Option (Bool × Unit) :=
  bif (eqI (lenI x0) 0) then
    some (false, ())
  else
  bif (inI x0 0) then
    bif (!(eqI (getI x0 (0, (0, (0, (0, ())))) 0).2.2.2.1 (-1))) then
      some (false, ())
    else
    bif (inI x0 0) then
      bif (!(eqI (getI x0 (0, (0, (0, (0, ())))) 0).2.1 0)) then
        some (false, ())
      else
      bif (inI x0 0) then
        bif (!(eqI (getI x0 (0, (0, (0, (0, ())))) 0).2.2.1 x1)) then
          some (false, ())
        else
        obind (lp15_4 fuelN x0 0) fun y0 =>
          osum y0 (fun a1 =>
            some (true, ())) (fun b1 =>
            some (b1.1.1, ()))
      else
      none
    else
    none
  else
  none
def sum15 : Sum := (⟨[.list (.pair (.int .i64) (.pair (.int .i64) (.pair (.int .i64) (.pair (.int .i64) .unit)))), .int .i64], [(.bool, false)], fun x => fn15 x.1 x.2.1⟩ : Sum)
noncomputable def env15 : Env := envOf Try.prog tt 15 [(30, sum30)] [(13, k15_13), (4, k15_4)] [(13, ls15_13), (4, ls15_4)]
theorem step15_13 {R : Type} (d : Nat) (n : Nat) (K : Ex → St → Option R) (v0 : List (Int × Int × Int × Int × Unit)) (v1 : Int) (v2 : Int) (v3 : Int) :
    iter (some k15_13) (runD env15 (d + 6) 15 c15_13) (n + 1) (mkSt p15_13 ((v0, v1, v2, v3, ()), ())) K =
      st15_13 (fun v0 v1 v2 v3 => iter (some k15_13) (runD env15 (d + 6) 15 c15_13) n (mkSt p15_13 ((v0, v1, v2, v3, ()), ())) K) (fun e0 e1 => K (.exit 2) (mkSt pa15_13 ((e0, e1, ()), ()))) (fun r0 => K .ret (mkSt pb15_13 ((r0, ()), ()))) v0 v1 v2 v3 := by kernel_rfl
theorem it15_13 {R : Type} (d : Nat) (K : Ex → St → Option R) : ∀ (n : Nat) (v0 : List (Int × Int × Int × Int × Unit)) (v1 : Int) (v2 : Int) (v3 : Int),
    iter (some k15_13) (runD env15 (d + 6) 15 c15_13) n (mkSt p15_13 ((v0, v1, v2, v3, ()), ())) K = obind (lp15_13 n v0 v1 v2 v3) fun o => osum o (fun a => K (.exit 2) (mkSt pa15_13 a)) fun b => K .ret (mkSt pb15_13 b)
  | 0, _, _, _, _ => rfl
  | n + 1, v0, v1, v2, v3 => by
    rw [step15_13]
    simp only [it15_13 d K n, lp15_13, st15_13, obind_cond, obind_none, obind_some, obind_obind, obind_osum]
    try simp only [osum]
theorem ok15_13 : LoopOk env15 15 c15_13 ls15_13 := loopBy_ok (by kernel_rfl) fun R d K v o h => ⟨fuelN, (it15_13 d K fuelN (v.1.1) (v.1.2.1) (v.1.2.2.1) (v.1.2.2.2.1)).trans (congrArg (fun o => obind o _) h)⟩
theorem step15_4 {R : Type} (d : Nat) (n : Nat) (K : Ex → St → Option R) (v0 : List (Int × Int × Int × Int × Unit)) (v1 : Int) :
    iter (some k15_4) (runD env15 (d + 12) 15 c15_4) (n + 1) (mkSt p15_4 ((v0, v1, ()), ())) K =
      st15_4 (fun v0 v1 => iter (some k15_4) (runD env15 (d + 12) 15 c15_4) n (mkSt p15_4 ((v0, v1, ()), ())) K) (K (.exit 0) (mkSt pa15_4 ((), ()))) (fun r0 => K .ret (mkSt pb15_4 ((r0, ()), ()))) v0 v1 := by kernel_rfl
theorem it15_4 {R : Type} (d : Nat) (K : Ex → St → Option R) : ∀ (n : Nat) (v0 : List (Int × Int × Int × Int × Unit)) (v1 : Int),
    iter (some k15_4) (runD env15 (d + 12) 15 c15_4) n (mkSt p15_4 ((v0, v1, ()), ())) K = obind (lp15_4 n v0 v1) fun o => osum o (fun a => K (.exit 0) (mkSt pa15_4 a)) fun b => K .ret (mkSt pb15_4 b)
  | 0, _, _ => rfl
  | n + 1, v0, v1 => by
    rw [step15_4]
    simp only [it15_4 d K n, lp15_4, st15_4, obind_cond, obind_none, obind_some, obind_obind, obind_osum]
    try simp only [osum]
theorem ok15_4 : LoopOk env15 15 c15_4 ls15_4 := loopBy_ok (by kernel_rfl) fun R d K v o h => ⟨fuelN, (it15_4 d K fuelN (v.1.1) (v.1.2.1)).trans (congrArg (fun o => obind o _) h)⟩
theorem run15 (x0 : List (Int × Int × Int × Int × Unit)) (x1 : Int) : runF env15 15 [.list (.pair (.int .i64) (.pair (.int .i64) (.pair (.int .i64) (.pair (.int .i64) .unit)))), .int .i64] [(.bool, false)] (x0, x1, ()) = fn15 x0 x1 := by kernel_rfl
theorem lat15 : loopsAt b15 = [c15_13, c15_4] := by kernel_rfl
theorem lok15 : loopsOk env15 15 b15 := loopsOk_at b15 (fun _ => rfl) (by rw [lat15]; exact (List.forall_mem_cons.2 ⟨(fun L h => by rw [show env15.lp 15 (firstRegion c15_13) = some ls15_13 by kernel_rfl] at h; cases h; exact ok15_13), (List.forall_mem_cons.2 ⟨(fun L h => by rw [show env15.lp 15 (firstRegion c15_4) = some ls15_4 by kernel_rfl] at h; cases h; exact ok15_4), (fun _ h => absurd h List.not_mem_nil)⟩)⟩))
theorem env15_ok : EnvOk env15 := envOf_ok tok mixed noGor (sg := [(30, sum30)]) (List.forall_mem_cons.2 ⟨(sum30_ok), (fun _ h => absurd h List.not_mem_nil)⟩) (fn := Try.f15) (c := b15) (by kernel_rfl) (by kernel_rfl) lok15 rf_ok chk_ok
theorem sum15_ok : SumOk Try.prog 15 sum15 := sum_of_run env15_ok (by decide) fun x y h => (run15 (x.1) (x.2.1)).trans h

/-! ### quillwort/quillwortref04.In -/
noncomputable def b37 : Code := (Try.f37.body).getD .skip
noncomputable def c37_2 : Code := cA (cA (cB (cA (cB (b37)))))
def k37_2 : Keep := ⟨[0, 1, 5, 100002], [], [], [], [4], []⟩
def p37_2 : SP := ⟨us [.v (.int .u8), .v .str, .u, .u, .u, .v (.int .i64)] 11, []⟩
def pa37_2 : SP := ⟨us [] 17, []⟩
def pb37_2 : SP := ⟨us [.u, .u, .u, .u, .v .bool] 12, []⟩
def st37_2 {γ : Type} (rec : Int → (List UInt8) → Int → Option γ) (kE : Option γ) (kR : Bool → Option γ) (v0 : Int) (v1 : List UInt8) (v2 : Int) : Option γ :=
  bif (ltI v2 (lenI v1)) then
    bif (inI v1 v2) then
      bif (eqI (byteAt v1 v2) v0) then
        kR true
      else
      rec v0 v1 (addK .i64 v2 1)
    else
    none
  else
  kE 
def lp37_2 : Nat → Int → (List UInt8) → Int → Option (pa37_2.den ⊕ pb37_2.den)
  | 0, _, _, _ => none
  | n + 1, v0, v1, v2 => st37_2 (lp37_2 n) (some (.inl ((), ()))) (fun r0 => some (.inr ((r0, ()), ()))) v0 v1 v2
noncomputable def ls37_2 : LoopSum := loopBy k37_2 p37_2 pa37_2 pb37_2 (.exit 0) (fun v => lp37_2 fuelN v.1.1 v.1.2.1 v.1.2.2.1) 6
def fn37 (x0 : Int) (x1 : List UInt8) : Option (Bool × Unit) :=
  obind (lp37_2 fuelN x0 x1 0) fun y0 =>
    osum y0 (fun a1 =>
      some (false, ())) (fun b1 =>
      some (b1.1.1, ()))
def sum37 : Sum := (⟨[.int .u8, .str], [(.bool, false)], fun x => fn37 x.1 x.2.1⟩ : Sum)
noncomputable def env37 : Env := envOf Try.prog tt 37 [] [(2, k37_2)] [(2, ls37_2)]
theorem step37_2 {R : Type} (d : Nat) (n : Nat) (K : Ex → St → Option R) (v0 : Int) (v1 : List UInt8) (v2 : Int) :
    iter (some k37_2) (runD env37 (d + 6) 37 c37_2) (n + 1) (mkSt p37_2 ((v0, v1, v2, ()), ())) K =
      st37_2 (fun v0 v1 v2 => iter (some k37_2) (runD env37 (d + 6) 37 c37_2) n (mkSt p37_2 ((v0, v1, v2, ()), ())) K) (K (.exit 0) (mkSt pa37_2 ((), ()))) (fun r0 => K .ret (mkSt pb37_2 ((r0, ()), ()))) v0 v1 v2 := by kernel_rfl
theorem it37_2 {R : Type} (d : Nat) (K : Ex → St → Option R) : ∀ (n : Nat) (v0 : Int) (v1 : List UInt8) (v2 : Int),
    iter (some k37_2) (runD env37 (d + 6) 37 c37_2) n (mkSt p37_2 ((v0, v1, v2, ()), ())) K = obind (lp37_2 n v0 v1 v2) fun o => osum o (fun a => K (.exit 0) (mkSt pa37_2 a)) fun b => K .ret (mkSt pb37_2 b)
  | 0, _, _, _ => rfl
  | n + 1, v0, v1, v2 => by
    rw [step37_2]
    simp only [it37_2 d K n, lp37_2, st37_2, obind_cond, obind_none, obind_some, obind_obind, obind_osum]
    try simp only [osum]
theorem ok37_2 : LoopOk env37 37 c37_2 ls37_2 := loopBy_ok (by kernel_rfl) fun R d K v o h => ⟨fuelN, (it37_2 d K fuelN (v.1.1) (v.1.2.1) (v.1.2.2.1)).trans (congrArg (fun o => obind o _) h)⟩
theorem run37 (x0 : Int) (x1 : List UInt8) : runF env37 37 [.int .u8, .str] [(.bool, false)] (x0, x1, ()) = fn37 x0 x1 := by kernel_rfl
theorem lat37 : loopsAt b37 = [c37_2] := by kernel_rfl
theorem lok37 : loopsOk env37 37 b37 := loopsOk_at b37 (fun _ => rfl) (by rw [lat37]; exact (List.forall_mem_cons.2 ⟨(fun L h => by rw [show env37.lp 37 (firstRegion c37_2) = some ls37_2 by kernel_rfl] at h; cases h; exact ok37_2), (fun _ h => absurd h List.not_mem_nil)⟩))
theorem env37_ok : EnvOk env37 := envOf_ok tok mixed noGor (sg := []) (fun _ h => absurd h List.not_mem_nil) (fn := Try.f37) (c := b37) (by kernel_rfl) (by kernel_rfl) lok37 rf_ok chk_ok
theorem sum37_ok : SumOk Try.prog 37 sum37 := sum_of_run env37_ok (by decide) fun x y h => (run37 (x.1) (x.2.1)).trans h

/-! ### quillwort/quillwortref04.Reserved -/
noncomputable def b19 : Code := (Try.f19.body).getD .skip
noncomputable def c19_5 : Code := cA (cA (cB (cA (cB (cB (cB (b19)))))))
def k19_5 : Keep := ⟨[3, 4, 100005], [], [], [], [2], []⟩
def p19_5 : SP := ⟨us [.u, .u, .u, .v .str, .v (.int .i64)] 25, []⟩
def pa19_5 : SP := ⟨us [] 30, []⟩
def pb19_5 : SP := ⟨us [.u, .u, .v .bool] 27, []⟩
def st19_5 {γ : Type} (rec : (List UInt8) → Int → Option γ) (kE : Option γ) (kR : Bool → Option γ) (v0 : List UInt8) (v1 : Int) : Option γ :=
  bif (leI (addK .i64 v1 (lenI v0)) 65) then
    bif (partI (lenI [32, 33, 32, 123, 32, 125, 32, 99, 97, 115, 101, 32, 100, 111, 32, 100, 111, 110, 101, 32, 101, 108, 105, 102, 32, 101, 108, 115, 101, 32, 101, 115, 97, 99, 32, 102, 105, 32, 102, 111, 114, 32, 105, 102, 32, 105, 110, 32, 116, 104, 101, 110, 32, 117, 110, 116, 105, 108, 32, 119, 104, 105, 108, 101, 32]) v1 (addK .i64 v1 (lenI v0))) then
      bif (eqS (sub [32, 33, 32, 123, 32, 125, 32, 99, 97, 115, 101, 32, 100, 111, 32, 100, 111, 110, 101, 32, 101, 108, 105, 102, 32, 101, 108, 115, 101, 32, 101, 115, 97, 99, 32, 102, 105, 32, 102, 111, 114, 32, 105, 102, 32, 105, 110, 32, 116, 104, 101, 110, 32, 117, 110, 116, 105, 108, 32, 119, 104, 105, 108, 101, 32] v1 (addK .i64 v1 (lenI v0))) v0) then
        kR true
      else
      rec v0 (addK .i64 v1 1)
    else
    none
  else
  kE 
def lp19_5 : Nat → (List UInt8) → Int → Option (pa19_5.den ⊕ pb19_5.den)
  | 0, _, _ => none
  | n + 1, v0, v1 => st19_5 (lp19_5 n) (some (.inl ((), ()))) (fun r0 => some (.inr ((r0, ()), ()))) v0 v1
noncomputable def ls19_5 : LoopSum := loopBy k19_5 p19_5 pa19_5 pb19_5 (.exit 0) (fun v => lp19_5 fuelN v.1.1 v.1.2.1) 6
def fn19 (x0 : List UInt8) : Option (Bool × Unit) :=
  bif (eqI (lenI x0) 0) then
    some (false, ())
  else
  obind (fn37 32 x0) fun y0 =>
    bif y0.1 then
      some (false, ())
    else
    bif (roomS [32] x0) then
      bif (roomS (catL [32] x0) [32]) then
        obind (lp19_5 fuelN (catL (catL [32] x0) [32]) 0) fun y1 =>
          osum y1 (fun a2 =>
            some (false, ())) (fun b2 =>
            some (b2.1.1, ()))
      else
      none
    else
    none
def sum19 : Sum := (⟨[.str], [(.bool, false)], fun x => fn19 x.1⟩ : Sum)
noncomputable def env19 : Env := envOf Try.prog tt 19 [(37, sum37)] [(5, k19_5)] [(5, ls19_5)]
theorem step19_5 {R : Type} (d : Nat) (n : Nat) (K : Ex → St → Option R) (v0 : List UInt8) (v1 : Int) :
    iter (some k19_5) (runD env19 (d + 6) 19 c19_5) (n + 1) (mkSt p19_5 ((v0, v1, ()), ())) K =
      st19_5 (fun v0 v1 => iter (some k19_5) (runD env19 (d + 6) 19 c19_5) n (mkSt p19_5 ((v0, v1, ()), ())) K) (K (.exit 0) (mkSt pa19_5 ((), ()))) (fun r0 => K .ret (mkSt pb19_5 ((r0, ()), ()))) v0 v1 := by kernel_rfl
theorem it19_5 {R : Type} (d : Nat) (K : Ex → St → Option R) : ∀ (n : Nat) (v0 : List UInt8) (v1 : Int),
    iter (some k19_5) (runD env19 (d + 6) 19 c19_5) n (mkSt p19_5 ((v0, v1, ()), ())) K = obind (lp19_5 n v0 v1) fun o => osum o (fun a => K (.exit 0) (mkSt pa19_5 a)) fun b => K .ret (mkSt pb19_5 b)
  | 0, _, _ => rfl
  | n + 1, v0, v1 => by
    rw [step19_5]
    simp only [it19_5 d K n, lp19_5, st19_5, obind_cond, obind_none, obind_some, obind_obind, obind_osum]
    try simp only [osum]
theorem ok19_5 : LoopOk env19 19 c19_5 ls19_5 := loopBy_ok (by kernel_rfl) fun R d K v o h => ⟨fuelN, (it19_5 d K fuelN (v.1.1) (v.1.2.1)).trans (congrArg (fun o => obind o _) h)⟩
theorem run19 (x0 : List UInt8) : runF env19 19 [.str] [(.bool, false)] (x0, ()) = fn19 x0 := by kernel_rfl
theorem lat19 : loopsAt b19 = [c19_5] := by kernel_rfl
theorem lok19 : loopsOk env19 19 b19 := loopsOk_at b19 (fun _ => rfl) (by rw [lat19]; exact (List.forall_mem_cons.2 ⟨(fun L h => by rw [show env19.lp 19 (firstRegion c19_5) = some ls19_5 by kernel_rfl] at h; cases h; exact ok19_5), (fun _ h => absurd h List.not_mem_nil)⟩))
theorem env19_ok : EnvOk env19 := envOf_ok tok mixed noGor (sg := [(37, sum37)]) (List.forall_mem_cons.2 ⟨(sum37_ok), (fun _ h => absurd h List.not_mem_nil)⟩) (fn := Try.f19) (c := b19) (by kernel_rfl) (by kernel_rfl) lok19 rf_ok chk_ok
theorem sum19_ok : SumOk Try.prog 19 sum19 := sum_of_run env19_ok (by decide) fun x y h => (run19 (x.1)).trans h

/-! ### quillwort/quillwortref05.Text -/
noncomputable def b28 : Code := (Try.f28.body).getD .skip
noncomputable def c28_4 : Code := cA (cA (cA (cB (cB (cB (b28))))))
def k28_4 : Keep := ⟨[3, 100004], [], [3], [], [2], []⟩
def p28_4 : SP := ⟨us [.u, .u, .u, .v .str] 29, []⟩
def pa28_4 : SP := ⟨us [.u, .u, .u, .v .str] 29, []⟩
def pb28_4 : SP := ⟨us [.u, .u, .v .str] 30, []⟩
def st28_4 {γ : Type} (rec : (List UInt8) → Option γ) (kE : (List UInt8) → Option γ) (kR : (List UInt8) → Option γ) (v0 : List UInt8) : Option γ :=
  bif (ltI 0 (lenI v0)) then
    bif (inI v0 (subK .i64 (lenI v0) 1)) then
      bif (eqI (byteAt v0 (subK .i64 (lenI v0) 1)) 32) then
        bif (partI (lenI v0) 0 (subK .i64 (lenI v0) 1)) then
          rec (sub v0 0 (subK .i64 (lenI v0) 1))
        else
        none
      else
      kE v0
    else
    none
  else
  kE v0
def lp28_4 : Nat → (List UInt8) → Option (pa28_4.den ⊕ pb28_4.den)
  | 0, _ => none
  | n + 1, v0 => st28_4 (lp28_4 n) (fun e0 => some (.inl ((e0, ()), ()))) (fun r0 => some (.inr ((r0, ()), ()))) v0
noncomputable def ls28_4 : LoopSum := loopBy k28_4 p28_4 pa28_4 pb28_4 (.exit 0) (fun v => lp28_4 fuelN v.1.1) 6
def fn28 (x0 : Int) : Option ((List UInt8) × Unit) :=
  bif (ltI x0 1) then
    some ([], ())
  else
  bif (ltI 17 x0) then
    some ([], ())
  else
  bif (partI (lenI [38, 38, 32, 124, 124, 32, 59, 59, 32, 60, 60, 32, 60, 60, 45, 62, 62, 32, 60, 38, 32, 62, 38, 32, 60, 62, 32, 62, 124, 32, 60, 32, 32, 62, 32, 32, 38, 32, 32, 59, 32, 32, 124, 32, 32, 40, 32, 32, 41, 32, 32]) (mulK .i64 3 (subK .i64 x0 1)) (mulK .i64 3 x0)) then
    obind (lp28_4 fuelN (sub [38, 38, 32, 124, 124, 32, 59, 59, 32, 60, 60, 32, 60, 60, 45, 62, 62, 32, 60, 38, 32, 62, 38, 32, 60, 62, 32, 62, 124, 32, 60, 32, 32, 62, 32, 32, 38, 32, 32, 59, 32, 32, 124, 32, 32, 40, 32, 32, 41, 32, 32] (mulK .i64 3 (subK .i64 x0 1)) (mulK .i64 3 x0))) fun y0 =>
      osum y0 (fun a1 =>
        some (a1.1.1, ())) (fun b1 =>
        some (b1.1.1, ()))
  else
  none
def sum28 : Sum := (⟨[.int .i64], [(.str, false)], fun x => fn28 x.1⟩ : Sum)
noncomputable def env28 : Env := envOf Try.prog tt 28 [] [(4, k28_4)] [(4, ls28_4)]
theorem step28_4 {R : Type} (d : Nat) (n : Nat) (K : Ex → St → Option R) (v0 : List UInt8) :
    iter (some k28_4) (runD env28 (d + 6) 28 c28_4) (n + 1) (mkSt p28_4 ((v0, ()), ())) K =
      st28_4 (fun v0 => iter (some k28_4) (runD env28 (d + 6) 28 c28_4) n (mkSt p28_4 ((v0, ()), ())) K) (fun e0 => K (.exit 0) (mkSt pa28_4 ((e0, ()), ()))) (fun r0 => K .ret (mkSt pb28_4 ((r0, ()), ()))) v0 := by kernel_rfl
theorem it28_4 {R : Type} (d : Nat) (K : Ex → St → Option R) : ∀ (n : Nat) (v0 : List UInt8),
    iter (some k28_4) (runD env28 (d + 6) 28 c28_4) n (mkSt p28_4 ((v0, ()), ())) K = obind (lp28_4 n v0) fun o => osum o (fun a => K (.exit 0) (mkSt pa28_4 a)) fun b => K .ret (mkSt pb28_4 b)
  | 0, _ => rfl
  | n + 1, v0 => by
    rw [step28_4]
    simp only [it28_4 d K n, lp28_4, st28_4, obind_cond, obind_none, obind_some, obind_obind, obind_osum]
    try simp only [osum]
theorem ok28_4 : LoopOk env28 28 c28_4 ls28_4 := loopBy_ok (by kernel_rfl) fun R d K v o h => ⟨fuelN, (it28_4 d K fuelN (v.1.1)).trans (congrArg (fun o => obind o _) h)⟩
theorem run28 (x0 : Int) : runF env28 28 [.int .i64] [(.str, false)] (x0, ()) = fn28 x0 := by kernel_rfl
theorem lat28 : loopsAt b28 = [c28_4] := by kernel_rfl
theorem lok28 : loopsOk env28 28 b28 := loopsOk_at b28 (fun _ => rfl) (by rw [lat28]; exact (List.forall_mem_cons.2 ⟨(fun L h => by rw [show env28.lp 28 (firstRegion c28_4) = some ls28_4 by kernel_rfl] at h; cases h; exact ok28_4), (fun _ h => absurd h List.not_mem_nil)⟩))
theorem env28_ok : EnvOk env28 := envOf_ok tok mixed noGor (sg := []) (fun _ h => absurd h List.not_mem_nil) (fn := Try.f28) (c := b28) (by kernel_rfl) (by kernel_rfl) lok28 rf_ok chk_ok
theorem sum28_ok : SumOk Try.prog 28 sum28 := sum_of_run env28_ok (by decide) fun x y h => (run28 (x.1)).trans h

/-! ### quillwort/quillwortref12.Sign -/
noncomputable def b11 : Code := (Try.f11.body).getD .skip
noncomputable def c11_7 : Code := cA (cA (cB (cA (cA (cB (cA (cB (cB (cB (b11))))))))))
def k11_7 : Keep := ⟨[1, 3, 100007], [], [], [], [2], []⟩
def p11_7 : SP := ⟨us [.u, .ptr 1000001 0, .u, .v (.int .i64)] 59, [.box 1000001 23 [.v (.int .i64), .v .str, .v (.int .i64), .v (.int .i64)]]⟩
def pa11_7 : SP := ⟨us [] 63, []⟩
def pb11_7 : SP := ⟨us [.u, .u, .v .str] 60, []⟩
def st11_7 {γ : Type} (rec : Int → Int → (List UInt8) → Int → Int → Option γ) (kE : Option γ) (kR : (List UInt8) → Option γ) (v0 : Int) (v1 : Int) (v2 : List UInt8) (v3 : Int) (v4 : Int) : Option γ :=
  bif (leI v0 17) then
    obind (fn28 v0) fun y0 =>
      bif (eqS y0.1 v2) then
        bif (partI (lenI [97, 111, 121, 60, 60, 60, 60, 60, 60, 60, 60, 60, 38, 59, 124, 40, 41]) (subK .i64 v0 1) v0) then
          kR (sub [97, 111, 121, 60, 60, 60, 60, 60, 60, 60, 60, 60, 38, 59, 124, 40, 41] (subK .i64 v0 1) v0)
        else
        none
      else
      rec (addK .i64 v0 1) v1 v2 v3 v4
  else
  kE 
def lp11_7 : Nat → Int → Int → (List UInt8) → Int → Int → Option (pa11_7.den ⊕ pb11_7.den)
  | 0, _, _, _, _, _ => none
  | n + 1, v0, v1, v2, v3, v4 => st11_7 (lp11_7 n) (some (.inl ((), ()))) (fun r0 => some (.inr ((r0, ()), ()))) v0 v1 v2 v3 v4
noncomputable def ls11_7 : LoopSum := loopBy k11_7 p11_7 pa11_7 pb11_7 (.exit 0) (fun v => lp11_7 fuelN v.1.1 v.2.1.1 v.2.1.2.1 v.2.1.2.2.1 v.2.1.2.2.2.1) 6
def fn11 (x0 : Int × (List UInt8) × (Int × Int × Unit)) : Option ((List UInt8) × Unit) :=
  bif (eqI x0.1 2) then
    some ([110], ())
  else
  bif (eqI x0.1 5) then
    some ([35], ())
  else
  bif (eqI x0.1 4) then
    obind (lp11_7 fuelN 1 x0.1 x0.2.1 x0.2.2.1 x0.2.2.2.1) fun y0 =>
      osum y0 (fun a1 =>
        some ([63], ())) (fun b1 =>
        some (b1.1.1, ()))
  else
  bif (!(eqI x0.1 6)) then
    some ([63], ())
  else
  obind (fn19 x0.2.1) fun y0 =>
    bif (!y0.1) then
      some ([120], ())
    else
    bif (eqI (lenI x0.2.1) 1) then
      some (x0.2.1, ())
    else
    bif (eqS x0.2.1 [105, 102]) then
      some ([105], ())
    else
    bif (eqS x0.2.1 [105, 110]) then
      some ([107], ())
    else
    bif (eqS x0.2.1 [101, 108, 115, 101]) then
      some ([108], ())
    else
    bif (eqS x0.2.1 [101, 115, 97, 99]) then
      some ([122], ())
    else
    bif (eqS x0.2.1 [102, 111, 114]) then
      some ([114], ())
    else
    bif (eqS x0.2.1 [100, 111, 110, 101]) then
      some ([103], ())
    else
    bif (eqS x0.2.1 [117, 110, 116, 105, 108]) then
      some ([119], ())
    else
    bif (partI (lenI x0.2.1) 0 1) then
      some ((sub x0.2.1 0 1), ())
    else
    none
def sum11 : Sum := (⟨[.pair (.int .i64) (.pair .str (.pair (.int .i64) (.pair (.int .i64) .unit)))], [(.str, false)], fun x => fn11 x.1⟩ : Sum)
noncomputable def env11 : Env := envOf Try.prog tt 11 [(19, sum19), (28, sum28)] [(7, k11_7)] [(7, ls11_7)]
theorem step11_7 {R : Type} (d : Nat) (n : Nat) (K : Ex → St → Option R) (v0 : Int) (v1 : Int) (v2 : List UInt8) (v3 : Int) (v4 : Int) :
    iter (some k11_7) (runD env11 (d + 6) 11 c11_7) (n + 1) (mkSt p11_7 ((v0, ()), ((v1, v2, v3, v4, ()), ()))) K =
      st11_7 (fun v0 v1 v2 v3 v4 => iter (some k11_7) (runD env11 (d + 6) 11 c11_7) n (mkSt p11_7 ((v0, ()), ((v1, v2, v3, v4, ()), ()))) K) (K (.exit 0) (mkSt pa11_7 ((), ()))) (fun r0 => K .ret (mkSt pb11_7 ((r0, ()), ()))) v0 v1 v2 v3 v4 := by kernel_rfl
theorem it11_7 {R : Type} (d : Nat) (K : Ex → St → Option R) : ∀ (n : Nat) (v0 : Int) (v1 : Int) (v2 : List UInt8) (v3 : Int) (v4 : Int),
    iter (some k11_7) (runD env11 (d + 6) 11 c11_7) n (mkSt p11_7 ((v0, ()), ((v1, v2, v3, v4, ()), ()))) K = obind (lp11_7 n v0 v1 v2 v3 v4) fun o => osum o (fun a => K (.exit 0) (mkSt pa11_7 a)) fun b => K .ret (mkSt pb11_7 b)
  | 0, _, _, _, _, _ => rfl
  | n + 1, v0, v1, v2, v3, v4 => by
    rw [step11_7]
    simp only [it11_7 d K n, lp11_7, st11_7, obind_cond, obind_none, obind_some, obind_obind, obind_osum]
    try simp only [osum]
theorem ok11_7 : LoopOk env11 11 c11_7 ls11_7 := loopBy_ok (by kernel_rfl) fun R d K v o h => ⟨fuelN, (it11_7 d K fuelN (v.1.1) (v.2.1.1) (v.2.1.2.1) (v.2.1.2.2.1) (v.2.1.2.2.2.1)).trans (congrArg (fun o => obind o _) h)⟩
theorem run11 (x0 : Int × (List UInt8) × (Int × Int × Unit)) : runF env11 11 [.pair (.int .i64) (.pair .str (.pair (.int .i64) (.pair (.int .i64) .unit)))] [(.str, false)] (x0, ()) = fn11 x0 := by kernel_rfl
theorem lat11 : loopsAt b11 = [c11_7] := by kernel_rfl
theorem lok11 : loopsOk env11 11 b11 := loopsOk_at b11 (fun _ => rfl) (by rw [lat11]; exact (List.forall_mem_cons.2 ⟨(fun L h => by rw [show env11.lp 11 (firstRegion c11_7) = some ls11_7 by kernel_rfl] at h; cases h; exact ok11_7), (fun _ h => absurd h List.not_mem_nil)⟩))
theorem env11_ok : EnvOk env11 := envOf_ok tok mixed noGor (sg := [(19, sum19), (28, sum28)]) (List.forall_mem_cons.2 ⟨(sum19_ok), (List.forall_mem_cons.2 ⟨(sum28_ok), (fun _ h => absurd h List.not_mem_nil)⟩)⟩) (fn := Try.f11) (c := b11) (by kernel_rfl) (by kernel_rfl) lok11 rf_ok chk_ok
theorem sum11_ok : SumOk Try.prog 11 sum11 := sum_of_run env11_ok (by decide) fun x y h => (run11 (x.1)).trans h

/-! ### quillwort/quillwortref04.Class -/
def fn50 (x0 : Int) : Option (Int × Unit) :=
  bif (eqI x0 32) then
    some (1, ())
  else
  bif (eqI x0 9) then
    some (1, ())
  else
  bif (eqI x0 10) then
    some (2, ())
  else
  obind (fn37 x0 [124, 38, 59, 60, 62, 40, 41]) fun y0 =>
    bif y0.1 then
      some (3, ())
    else
    obind (fn37 x0 [92, 39, 34, 96, 36]) fun y1 =>
      bif y1.1 then
        some (4, ())
      else
      obind (fn37 x0 [65, 66, 67, 68, 69, 70, 71, 72, 73, 74, 75, 76, 77, 78, 79, 80, 81, 82, 83, 84, 85, 86, 87, 88, 89, 90, 97, 98, 99, 100, 101, 102, 103, 104, 105, 106, 107, 108, 109, 110, 111, 112, 113, 114, 115, 116, 117, 118, 119, 120, 121, 122, 95]) fun y2 =>
        bif y2.1 then
          some (5, ())
        else
        obind (fn37 x0 [48, 49, 50, 51, 52, 53, 54, 55, 56, 57]) fun y3 =>
          bif y3.1 then
            some (6, ())
          else
          some (0, ())
def sum50 : Sum := (⟨[.int .u8], [(.int .i64, false)], fun x => fn50 x.1⟩ : Sum)
noncomputable def env50 : Env := envOf Try.prog tt 50 [(37, sum37)] [] []
theorem run50 (x0 : Int) : runF env50 50 [.int .u8] [(.int .i64, false)] (x0, ()) = fn50 x0 := by kernel_rfl
theorem env50_ok : EnvOk env50 := envOf_ok tok mixed noGor (sg := [(37, sum37)]) (List.forall_mem_cons.2 ⟨(sum37_ok), (fun _ h => absurd h List.not_mem_nil)⟩) (fn := Try.f50) (c := (Try.f50.body).getD .skip) (by kernel_rfl) (by kernel_rfl) (loopsOk_none (fun _ => rfl) (fun _ => rfl) _) rf_ok chk_ok
theorem sum50_ok : SumOk Try.prog 50 sum50 := sum_of_run env50_ok (by decide) fun x y h => (run50 (x.1)).trans h

/-! ### quillwort/quillwortref04.IsName -/
noncomputable def b35 : Code := (Try.f35.body).getD .skip
noncomputable def c35_4 : Code := cA (cA (cB (cA (cB (cB (b35))))))
def k35_4 : Keep := ⟨[0, 3, 100004], [], [], [], [2], []⟩
def p35_4 : SP := ⟨us [.v .str, .u, .u, .v (.int .i64)] 27, []⟩
def pa35_4 : SP := ⟨us [] 31, []⟩
def pb35_4 : SP := ⟨us [.u, .u, .v .bool] 28, []⟩
def st35_4 {γ : Type} (rec : (List UInt8) → Int → Option γ) (kE : Option γ) (kR : Bool → Option γ) (v0 : List UInt8) (v1 : Int) : Option γ :=
  bif (ltI v1 (lenI v0)) then
    bif (inI v0 v1) then
      obind (fn50 (byteAt v0 v1)) fun y0 =>
        bif (!(eqI y0.1 5)) then
          bif (inI v0 v1) then
            obind (fn50 (byteAt v0 v1)) fun y1 =>
              bif (!(eqI y1.1 6)) then
                kR false
              else
              rec v0 (addK .i64 v1 1)
          else
          none
        else
        rec v0 (addK .i64 v1 1)
    else
    none
  else
  kE 
def lp35_4 : Nat → (List UInt8) → Int → Option (pa35_4.den ⊕ pb35_4.den)
  | 0, _, _ => none
  | n + 1, v0, v1 => st35_4 (lp35_4 n) (some (.inl ((), ()))) (fun r0 => some (.inr ((r0, ()), ()))) v0 v1
noncomputable def ls35_4 : LoopSum := loopBy k35_4 p35_4 pa35_4 pb35_4 (.exit 0) (fun v => lp35_4 fuelN v.1.1 v.1.2.1) 6
def fn35 (x0 : List UInt8) : Option (Bool × Unit) :=
  bif (eqI (lenI x0) 0) then
    some (false, ())
  else
  bif (inI x0 0) then
    obind (fn50 (byteAt x0 0)) fun y0 =>
      bif (!(eqI y0.1 5)) then
        some (false, ())
      else
      obind (lp35_4 fuelN x0 1) fun y1 =>
        osum y1 (fun a2 =>
          some (true, ())) (fun b2 =>
          some (b2.1.1, ()))
  else
  none
def sum35 : Sum := (⟨[.str], [(.bool, false)], fun x => fn35 x.1⟩ : Sum)
noncomputable def env35 : Env := envOf Try.prog tt 35 [(50, sum50)] [(4, k35_4)] [(4, ls35_4)]
theorem step35_4 {R : Type} (d : Nat) (n : Nat) (K : Ex → St → Option R) (v0 : List UInt8) (v1 : Int) :
    iter (some k35_4) (runD env35 (d + 6) 35 c35_4) (n + 1) (mkSt p35_4 ((v0, v1, ()), ())) K =
      st35_4 (fun v0 v1 => iter (some k35_4) (runD env35 (d + 6) 35 c35_4) n (mkSt p35_4 ((v0, v1, ()), ())) K) (K (.exit 0) (mkSt pa35_4 ((), ()))) (fun r0 => K .ret (mkSt pb35_4 ((r0, ()), ()))) v0 v1 := by kernel_rfl
theorem it35_4 {R : Type} (d : Nat) (K : Ex → St → Option R) : ∀ (n : Nat) (v0 : List UInt8) (v1 : Int),
    iter (some k35_4) (runD env35 (d + 6) 35 c35_4) n (mkSt p35_4 ((v0, v1, ()), ())) K = obind (lp35_4 n v0 v1) fun o => osum o (fun a => K (.exit 0) (mkSt pa35_4 a)) fun b => K .ret (mkSt pb35_4 b)
  | 0, _, _ => rfl
  | n + 1, v0, v1 => by
    rw [step35_4]
    simp only [it35_4 d K n, lp35_4, st35_4, obind_cond, obind_none, obind_some, obind_obind, obind_osum]
    try simp only [osum]
theorem ok35_4 : LoopOk env35 35 c35_4 ls35_4 := loopBy_ok (by kernel_rfl) fun R d K v o h => ⟨fuelN, (it35_4 d K fuelN (v.1.1) (v.1.2.1)).trans (congrArg (fun o => obind o _) h)⟩
theorem run35 (x0 : List UInt8) : runF env35 35 [.str] [(.bool, false)] (x0, ()) = fn35 x0 := by kernel_rfl
theorem lat35 : loopsAt b35 = [c35_4] := by kernel_rfl
theorem lok35 : loopsOk env35 35 b35 := loopsOk_at b35 (fun _ => rfl) (by rw [lat35]; exact (List.forall_mem_cons.2 ⟨(fun L h => by rw [show env35.lp 35 (firstRegion c35_4) = some ls35_4 by kernel_rfl] at h; cases h; exact ok35_4), (fun _ h => absurd h List.not_mem_nil)⟩))
theorem env35_ok : EnvOk env35 := envOf_ok tok mixed noGor (sg := [(50, sum50)]) (List.forall_mem_cons.2 ⟨(sum50_ok), (fun _ h => absurd h List.not_mem_nil)⟩) (fn := Try.f35) (c := b35) (by kernel_rfl) (by kernel_rfl) lok35 rf_ok chk_ok
theorem sum35_ok : SumOk Try.prog 35 sum35 := sum_of_run env35_ok (by decide) fun x y h => (run35 (x.1)).trans h

/-! ### quillwort/quillwortref04.Assign -/
noncomputable def b20 : Code := (Try.f20.body).getD .skip
noncomputable def c20_2 : Code := cA (cA (cB (cA (cB (b20)))))
def k20_2 : Keep := ⟨[0, 3, 100002], [], [], [], [2], []⟩
def p20_2 : SP := ⟨us [.v .str, .u, .u, .v (.int .i64)] 17, []⟩
def pa20_2 : SP := ⟨us [] 21, []⟩
def pb20_2 : SP := ⟨us [.u, .u, .v (.int .i64)] 18, []⟩
def st20_2 {γ : Type} (rec : (List UInt8) → Int → Option γ) (kE : Option γ) (kR : Int → Option γ) (v0 : List UInt8) (v1 : Int) : Option γ :=
  bif (ltI v1 (lenI v0)) then
    bif (inI v0 v1) then
      bif (eqI (byteAt v0 v1) 61) then
        bif (partI (lenI v0) 0 v1) then
          obind (fn35 (sub v0 0 v1)) fun y0 =>
            bif y0.1 then
              kR v1
            else
            rec v0 (addK .i64 v1 1)
        else
        none
      else
      rec v0 (addK .i64 v1 1)
    else
    none
  else
  kE 
def lp20_2 : Nat → (List UInt8) → Int → Option (pa20_2.den ⊕ pb20_2.den)
  | 0, _, _ => none
  | n + 1, v0, v1 => st20_2 (lp20_2 n) (some (.inl ((), ()))) (fun r0 => some (.inr ((r0, ()), ()))) v0 v1
noncomputable def ls20_2 : LoopSum := loopBy k20_2 p20_2 pa20_2 pb20_2 (.exit 0) (fun v => lp20_2 fuelN v.1.1 v.1.2.1) 6
def fn20 (x0 : List UInt8) : Option (Int × Unit) :=
  obind (lp20_2 fuelN x0 1) fun y0 =>
    osum y0 (fun a1 =>
      some (0, ())) (fun b1 =>
      some (b1.1.1, ()))
def sum20 : Sum := (⟨[.str], [(.int .i64, false)], fun x => fn20 x.1⟩ : Sum)
noncomputable def env20 : Env := envOf Try.prog tt 20 [(35, sum35)] [(2, k20_2)] [(2, ls20_2)]
theorem step20_2 {R : Type} (d : Nat) (n : Nat) (K : Ex → St → Option R) (v0 : List UInt8) (v1 : Int) :
    iter (some k20_2) (runD env20 (d + 6) 20 c20_2) (n + 1) (mkSt p20_2 ((v0, v1, ()), ())) K =
      st20_2 (fun v0 v1 => iter (some k20_2) (runD env20 (d + 6) 20 c20_2) n (mkSt p20_2 ((v0, v1, ()), ())) K) (K (.exit 0) (mkSt pa20_2 ((), ()))) (fun r0 => K .ret (mkSt pb20_2 ((r0, ()), ()))) v0 v1 := by kernel_rfl
theorem it20_2 {R : Type} (d : Nat) (K : Ex → St → Option R) : ∀ (n : Nat) (v0 : List UInt8) (v1 : Int),
    iter (some k20_2) (runD env20 (d + 6) 20 c20_2) n (mkSt p20_2 ((v0, v1, ()), ())) K = obind (lp20_2 n v0 v1) fun o => osum o (fun a => K (.exit 0) (mkSt pa20_2 a)) fun b => K .ret (mkSt pb20_2 b)
  | 0, _, _ => rfl
  | n + 1, v0, v1 => by
    rw [step20_2]
    simp only [it20_2 d K n, lp20_2, st20_2, obind_cond, obind_none, obind_some, obind_obind, obind_osum]
    try simp only [osum]
theorem ok20_2 : LoopOk env20 20 c20_2 ls20_2 := loopBy_ok (by kernel_rfl) fun R d K v o h => ⟨fuelN, (it20_2 d K fuelN (v.1.1) (v.1.2.1)).trans (congrArg (fun o => obind o _) h)⟩
theorem run20 (x0 : List UInt8) : runF env20 20 [.str] [(.int .i64, false)] (x0, ()) = fn20 x0 := by kernel_rfl
theorem lat20 : loopsAt b20 = [c20_2] := by kernel_rfl
theorem lok20 : loopsOk env20 20 b20 := loopsOk_at b20 (fun _ => rfl) (by rw [lat20]; exact (List.forall_mem_cons.2 ⟨(fun L h => by rw [show env20.lp 20 (firstRegion c20_2) = some ls20_2 by kernel_rfl] at h; cases h; exact ok20_2), (fun _ h => absurd h List.not_mem_nil)⟩))
theorem env20_ok : EnvOk env20 := envOf_ok tok mixed noGor (sg := [(35, sum35)]) (List.forall_mem_cons.2 ⟨(sum35_ok), (fun _ h => absurd h List.not_mem_nil)⟩) (fn := Try.f20) (c := b20) (by kernel_rfl) (by kernel_rfl) lok20 rf_ok chk_ok
theorem sum20_ok : SumOk Try.prog 20 sum20 := sum_of_run env20_ok (by decide) fun x y h => (run20 (x.1)).trans h

/-! ### quillwort/quillwortref12.Nests -/
def fn33 (x0 : Int) : Option (Bool × Unit) :=
  bif (leI 9 x0) then
    bif (leI x0 14) then
      some (true, ())
    else
    some ((eqI x0 16), ())
  else
  some ((eqI x0 16), ())
def sum33 : Sum := (⟨[.int .i64], [(.bool, false)], fun x => fn33 x.1⟩ : Sum)
noncomputable def env33 : Env := envOf Try.prog tt 33 [] [] []
theorem run33 (x0 : Int) : runF env33 33 [.int .i64] [(.bool, false)] (x0, ()) = fn33 x0 := by kernel_rfl
theorem env33_ok : EnvOk env33 := envOf_ok tok mixed noGor (sg := []) (fun _ h => absurd h List.not_mem_nil) (fn := Try.f33) (c := (Try.f33.body).getD .skip) (by kernel_rfl) (by kernel_rfl) (loopsOk_none (fun _ => rfl) (fun _ => rfl) _) rf_ok chk_ok
theorem sum33_ok : SumOk Try.prog 33 sum33 := sum_of_run env33_ok (by decide) fun x y h => (run33 (x.1)).trans h

/-! ### quillwort/quillwortref12.Deep -/
noncomputable def b23 : Code := (Try.f23.body).getD .skip
noncomputable def c23_3 : Code := cA (cA (cB (cA (cB (cB (b23))))))
def k23_3 : Keep := ⟨[0, 1, 5, 6, 100003], [], [5], [], [4], []⟩
def p23_3 : SP := ⟨us [.v (.list (.pair (.int .i64) (.pair (.int .i64) (.pair (.int .i64) (.pair (.int .i64) .unit))))), .v (.int .i64), .u, .u, .u, .v (.int .i64), .v (.int .i64)] 20, []⟩
def pa23_3 : SP := ⟨us [.u, .u, .u, .u, .u, .v (.int .i64)] 21, []⟩
def pb23_3 : SP := ⟨us [.u, .u, .u, .u, .v (.int .i64)] 22, []⟩
def st23_3 {γ : Type} (rec : (List (Int × Int × Int × Int × Unit)) → Int → Int → Int → Option γ) (kE : Int → Option γ) (kR : Int → Option γ) (v0 : List (Int × Int × Int × Int × Unit)) (v1 : Int) (v2 : Int) (v3 : Int) : Option γ :=
  bif (ltI v3 v1) then
    bif (inI v0 v3) then
      obind (fn33 (getI v0 (0, (0, (0, (0, ())))) v3).1) fun y0 =>
        bif y0.1 then
          obind (fn30 v0 v3 v1) fun y1 =>
            bif y1.1 then
              rec v0 v1 (addK .i64 v2 1) (addK .i64 v3 1)
            else
            rec v0 v1 v2 (addK .i64 v3 1)
        else
        rec v0 v1 v2 (addK .i64 v3 1)
    else
    none
  else
  kE v2
def lp23_3 : Nat → (List (Int × Int × Int × Int × Unit)) → Int → Int → Int → Option (pa23_3.den ⊕ pb23_3.den)
  | 0, _, _, _, _ => none
  | n + 1, v0, v1, v2, v3 => st23_3 (lp23_3 n) (fun e0 => some (.inl ((e0, ()), ()))) (fun r0 => some (.inr ((r0, ()), ()))) v0 v1 v2 v3
noncomputable def ls23_3 : LoopSum := loopBy k23_3 p23_3 pa23_3 pb23_3 (.exit 0) (fun v => lp23_3 fuelN v.1.1 v.1.2.1 v.1.2.2.1 v.1.2.2.2.1) 6
def fn23 (x0 : List (Int × Int × Int × Int × Unit)) (x1 : Int) : Option (Int × Unit) :=
  obind (lp23_3 fuelN x0 x1 0 0) fun y0 =>
    osum y0 (fun a1 =>
      some (a1.1.1, ())) (fun b1 =>
      some (b1.1.1, ()))
def sum23 : Sum := (⟨[.list (.pair (.int .i64) (.pair (.int .i64) (.pair (.int .i64) (.pair (.int .i64) .unit)))), .int .i64], [(.int .i64, false)], fun x => fn23 x.1 x.2.1⟩ : Sum)
noncomputable def env23 : Env := envOf Try.prog tt 23 [(30, sum30), (33, sum33)] [(3, k23_3)] [(3, ls23_3)]
theorem step23_3 {R : Type} (d : Nat) (n : Nat) (K : Ex → St → Option R) (v0 : List (Int × Int × Int × Int × Unit)) (v1 : Int) (v2 : Int) (v3 : Int) :
    iter (some k23_3) (runD env23 (d + 6) 23 c23_3) (n + 1) (mkSt p23_3 ((v0, v1, v2, v3, ()), ())) K =
      st23_3 (fun v0 v1 v2 v3 => iter (some k23_3) (runD env23 (d + 6) 23 c23_3) n (mkSt p23_3 ((v0, v1, v2, v3, ()), ())) K) (fun e0 => K (.exit 0) (mkSt pa23_3 ((e0, ()), ()))) (fun r0 => K .ret (mkSt pb23_3 ((r0, ()), ()))) v0 v1 v2 v3 := by kernel_rfl
theorem it23_3 {R : Type} (d : Nat) (K : Ex → St → Option R) : ∀ (n : Nat) (v0 : List (Int × Int × Int × Int × Unit)) (v1 : Int) (v2 : Int) (v3 : Int),
    iter (some k23_3) (runD env23 (d + 6) 23 c23_3) n (mkSt p23_3 ((v0, v1, v2, v3, ()), ())) K = obind (lp23_3 n v0 v1 v2 v3) fun o => osum o (fun a => K (.exit 0) (mkSt pa23_3 a)) fun b => K .ret (mkSt pb23_3 b)
  | 0, _, _, _, _ => rfl
  | n + 1, v0, v1, v2, v3 => by
    rw [step23_3]
    simp only [it23_3 d K n, lp23_3, st23_3, obind_cond, obind_none, obind_some, obind_obind, obind_osum]
    try simp only [osum]
theorem ok23_3 : LoopOk env23 23 c23_3 ls23_3 := loopBy_ok (by kernel_rfl) fun R d K v o h => ⟨fuelN, (it23_3 d K fuelN (v.1.1) (v.1.2.1) (v.1.2.2.1) (v.1.2.2.2.1)).trans (congrArg (fun o => obind o _) h)⟩
theorem run23 (x0 : List (Int × Int × Int × Int × Unit)) (x1 : Int) : runF env23 23 [.list (.pair (.int .i64) (.pair (.int .i64) (.pair (.int .i64) (.pair (.int .i64) .unit)))), .int .i64] [(.int .i64, false)] (x0, x1, ()) = fn23 x0 x1 := by kernel_rfl
theorem lat23 : loopsAt b23 = [c23_3] := by kernel_rfl
theorem lok23 : loopsOk env23 23 b23 := loopsOk_at b23 (fun _ => rfl) (by rw [lat23]; exact (List.forall_mem_cons.2 ⟨(fun L h => by rw [show env23.lp 23 (firstRegion c23_3) = some ls23_3 by kernel_rfl] at h; cases h; exact ok23_3), (fun _ h => absurd h List.not_mem_nil)⟩))
theorem env23_ok : EnvOk env23 := envOf_ok tok mixed noGor (sg := [(30, sum30), (33, sum33)]) (List.forall_mem_cons.2 ⟨(sum30_ok), (List.forall_mem_cons.2 ⟨(sum33_ok), (fun _ h => absurd h List.not_mem_nil)⟩)⟩) (fn := Try.f23) (c := b23) (by kernel_rfl) (by kernel_rfl) lok23 rf_ok chk_ok
theorem sum23_ok : SumOk Try.prog 23 sum23 := sum_of_run env23_ok (by decide) fun x y h => (run23 (x.1) (x.2.1)).trans h

/-! ### quillwort/quillwortref12.begin -/
def fn43 (x0 : List UInt8) : Option ((List (Bool)) × Unit) :=
  bif ((leI 0 (addK .i64 (lenI x0) 1)) && ((leI (addK .i64 (lenI x0) 1) (addK .i64 (lenI x0) 1)) && (roomC (addK .i64 (lenI x0) 1) 1))) then
    bif (inI (repN (natI (addK .i64 (lenI x0) 1)) false) 0) then
      bif (ltL (natI 0) (repN (natI (addK .i64 (lenI x0) 1)) false)) then
        some ((setI (repN (natI (addK .i64 (lenI x0) 1)) false) (natI 0) true), ())
      else
      none
    else
    none
  else
  none
def sum43 : Sum := (⟨[.str], [(.list .bool, false)], fun x => fn43 x.1⟩ : Sum)
noncomputable def env43 : Env := envOf Try.prog tt 43 [] [] []
theorem run43 (x0 : List UInt8) : runF env43 43 [.str] [(.list .bool, false)] (x0, ()) = fn43 x0 := by kernel_rfl
theorem env43_ok : EnvOk env43 := envOf_ok tok mixed noGor (sg := []) (fun _ h => absurd h List.not_mem_nil) (fn := Try.f43) (c := (Try.f43.body).getD .skip) (by kernel_rfl) (by kernel_rfl) (loopsOk_none (fun _ => rfl) (fun _ => rfl) _) rf_ok chk_ok
theorem sum43_ok : SumOk Try.prog 43 sum43 := sum_of_run env43_ok (by decide) fun x y h => (run43 (x.1)).trans h

/-! ### quillwort/quillwortref12.many -/
noncomputable def b44 : Code := (Try.f44.body).getD .skip
noncomputable def b44_45 : Code := (Try.f45.body).getD .skip
noncomputable def c44_3 : Code := cA (cA (cB (cA (cB (cB (b44))))))
noncomputable def c44_45_3 : Code := cA (cA (cB (cA (cB (cB (b44_45))))))
def k44_3 : Keep := ⟨[0, 2, 7, 8, 100003], [], [7], [], [6], [(6, .bool)]⟩
def k44_45_3 : Keep := ⟨[0, 1, 5, 6, 46000003], [], [5], [], [4], []⟩
def p44_45_3 : SQ := ⟨us [.v (.list .bool), .v (.list .bool), .u, .u, .u, .slc 2000009, .v (.int .i64)] 23, [[.v .str, .v (.list .bool), .v .str, .e, .e, .e, .nils, .e, .e, .v (.list .bool), .v (.list .bool), .e, .e, .e, .e, .e, .e, .e, .e, .e, .e, .e, .e, .e, .e, .e, .e, .e, .e, .e, .e, .e, .e, .e, .e, .e, .e, .e, .e, .e, .e], []], [.arr 2000009 .bool]⟩
def pa44_45_3 : SQ := ⟨us [.u, .u, .u, .u, .u, .slc 2000009] 24, [[.v .str, .v (.list .bool), .v .str, .e, .e, .e, .nils, .e, .e, .v (.list .bool), .v (.list .bool), .e, .e, .e, .e, .e, .e, .e, .e, .e, .e, .e, .e, .e, .e, .e, .e, .e, .e, .e, .e, .e, .e, .e, .e, .e, .e, .e, .e, .e, .e], []], [.arr 2000009 .bool]⟩
def pb44_45_3 : SQ := ⟨us [.u, .u, .u, .u, .v (.list .bool)] 25, [[.v .str, .v (.list .bool), .v .str, .e, .e, .e, .nils, .e, .e, .v (.list .bool), .v (.list .bool), .e, .e, .e, .e, .e, .e, .e, .e, .e, .e, .e, .e, .e, .e, .e, .e, .e, .e, .e, .e, .e, .e, .e, .e, .e, .e, .e, .e, .e, .e], []], []⟩
def st44_45_3 {γ : Type} (rec : (List (Bool)) → (List (Bool)) → Int → (List UInt8) → (List (Bool)) → (List UInt8) → (List (Bool)) → (List (Bool)) → (List (Bool)) → Option γ) (kE : (List UInt8) → (List (Bool)) → (List UInt8) → (List (Bool)) → (List (Bool)) → (List (Bool)) → Option γ) (kR : (List (Bool)) → (List UInt8) → (List (Bool)) → (List UInt8) → (List (Bool)) → (List (Bool)) → Option γ) (v0 : List (Bool)) (v1 : List (Bool)) (v2 : Int) (v3 : List UInt8) (v4 : List (Bool)) (v5 : List UInt8) (v6 : List (Bool)) (v7 : List (Bool)) (v8 : List (Bool)) : Option γ :=
  bif (ltI v2 (lenI v0)) then
    bif (inI v0 v2) then
      bif (getI v0 false v2) then
        bif (inI v8 v2) then
          bif (ltL (natI v2) v8) then
            rec v0 v1 (addK .i64 v2 1) v3 v4 v5 v6 v7 (setI v8 (natI v2) true)
          else
          none
        else
        none
      else
      bif (inI v1 v2) then
        bif (inI v8 v2) then
          bif (ltL (natI v2) v8) then
            rec v0 v1 (addK .i64 v2 1) v3 v4 v5 v6 v7 (setI v8 (natI v2) (getI v1 false v2))
          else
          none
        else
        none
      else
      none
    else
    none
  else
  kE v3 v4 v5 v6 v7 v8
def lp44_45_3 : Nat → (List (Bool)) → (List (Bool)) → Int → (List UInt8) → (List (Bool)) → (List UInt8) → (List (Bool)) → (List (Bool)) → (List (Bool)) → Option (pa44_45_3.den ⊕ pb44_45_3.den)
  | 0, _, _, _, _, _, _, _, _, _ => none
  | n + 1, v0, v1, v2, v3, v4, v5, v6, v7, v8 => st44_45_3 (lp44_45_3 n) (fun e0 e1 e2 e3 e4 e5 => some (.inl ((), ((e0, e1, e2, e3, e4, ()), (), ()), (e5, ())))) (fun r0 r1 r2 r3 r4 r5 => some (.inr ((r0, ()), ((r1, r2, r3, r4, r5, ()), (), ()), ()))) v0 v1 v2 v3 v4 v5 v6 v7 v8
noncomputable def ls44_45_3 : LoopSum := loopBy2 k44_45_3 p44_45_3 pa44_45_3 pb44_45_3 (.exit 0) (fun v => lp44_45_3 fuelN v.1.1 v.1.2.1 v.1.2.2.1 v.2.1.1.1 v.2.1.1.2.1 v.2.1.1.2.2.1 v.2.1.1.2.2.2.1 v.2.1.1.2.2.2.2.1 v.2.2.1) 6
def p44_3 : SP := ⟨us [.v .str, .u, .v .str, .u, .u, .u, .u, .slc 2000009, .v (.int .i64)] 32, [.arr 2000009 .bool]⟩
def pa44_3 : SP := ⟨us [.u, .u, .u, .u, .u, .u, .u, .slc 2000009] 33, [.arr 2000009 .bool]⟩
def pb44_3 : SP := ⟨us [.u, .u, .u, .u, .u, .u, .v (.list .bool)] 34, []⟩
def st44_3 {γ : Type} (rec : (List UInt8) → (List UInt8) → Int → (List (Bool)) → Option γ) (kE : (List (Bool)) → Option γ) (kR : (List (Bool)) → Option γ) (v0 : List UInt8) (v1 : List UInt8) (v2 : Int) (v3 : List (Bool)) : Option γ :=
  bif (ltI v2 (lenI v0)) then
    bif (inI v3 (addK .i64 v2 1)) then
      bif (ltL (natI (addK .i64 v2 1)) v3) then
        bif (nthN v3 false (natI (addK .i64 v2 1))) then
          bif (inI v3 (addK .i64 v2 1)) then
            bif (ltL (natI (addK .i64 v2 1)) v3) then
              rec v0 v1 (addK .i64 v2 1) (setI v3 (natI (addK .i64 v2 1)) true)
            else
            none
          else
          none
        else
        bif (inI v3 v2) then
          bif (ltL (natI v2) v3) then
            bif (nthN v3 false (natI v2)) then
              bif (inI v0 v2) then
                obind (fn37 (byteAt v0 v2) v1) fun y0 =>
                  bif (inI v3 (addK .i64 v2 1)) then
                    bif (ltL (natI (addK .i64 v2 1)) v3) then
                      rec v0 v1 (addK .i64 v2 1) (setI v3 (natI (addK .i64 v2 1)) y0.1)
                    else
                    none
                  else
                  none
              else
              none
            else
            bif (inI v3 (addK .i64 v2 1)) then
              bif (ltL (natI (addK .i64 v2 1)) v3) then
                rec v0 v1 (addK .i64 v2 1) (setI v3 (natI (addK .i64 v2 1)) false)
              else
              none
            else
            none
          else
          none
        else
        none
      else
      none
    else
    none
  else
  kE v3
def lp44_3 : Nat → (List UInt8) → (List UInt8) → Int → (List (Bool)) → Option (pa44_3.den ⊕ pb44_3.den)
  | 0, _, _, _, _ => none
  | n + 1, v0, v1, v2, v3 => st44_3 (lp44_3 n) (fun e0 => some (.inl ((), (e0, ())))) (fun r0 => some (.inr ((r0, ()), ()))) v0 v1 v2 v3
noncomputable def ls44_3 : LoopSum := loopBy k44_3 p44_3 pa44_3 pb44_3 (.exit 0) (fun v => lp44_3 fuelN v.1.1 v.1.2.1 v.1.2.2.1 v.2.1) 12
def fn44 (x0 : List UInt8) (x1 : List (Bool)) (x2 : List UInt8) : Option ((List (Bool)) × Unit) :=
  bif ((leI 0 (lenI x1)) && ((leI (lenI x1) (lenI x1)) && (roomC (lenI x1) 1))) then
    obind (lp44_45_3 fuelN x1 x1 0 x0 x1 x2 x1 x1 (repN (natI (lenI x1)) false)) fun y0 =>
      osum y0 (fun a1 =>
        obind (lp44_3 fuelN a1.2.1.1.1 a1.2.1.1.2.2.1 0 a1.2.2.1) fun y2 =>
          osum y2 (fun a3 =>
            some (a3.2.1, ())) (fun b3 =>
            some (b3.1.1, ()))) (fun b1 =>
        none)
  else
  none
def sum44 : Sum := (⟨[.str, .list .bool, .str], [(.list .bool, false)], fun x => fn44 x.1 x.2.1 x.2.2.1⟩ : Sum)
noncomputable def env44 : Env := envOf2 Try.prog tt [(37, sum37)] [(44, 3, k44_3), (45, 3, k44_45_3)] [(45, 3, ls44_45_3), (44, 3, ls44_3)] []
theorem step44_45_3 {R : Type} (d : Nat) (n : Nat) (K : Ex → St → Option R) (v0 : List (Bool)) (v1 : List (Bool)) (v2 : Int) (v3 : List UInt8) (v4 : List (Bool)) (v5 : List UInt8) (v6 : List (Bool)) (v7 : List (Bool)) (v8 : List (Bool)) :
    iter (some k44_45_3) (runD env44 (d + 6) 45 c44_45_3) (n + 1) (mkSt2 p44_45_3 ((v0, v1, v2, ()), ((v3, v4, v5, v6, v7, ()), (), ()), (v8, ()))) K =
      st44_45_3 (fun v0 v1 v2 v3 v4 v5 v6 v7 v8 => iter (some k44_45_3) (runD env44 (d + 6) 45 c44_45_3) n (mkSt2 p44_45_3 ((v0, v1, v2, ()), ((v3, v4, v5, v6, v7, ()), (), ()), (v8, ()))) K) (fun e0 e1 e2 e3 e4 e5 => K (.exit 0) (mkSt2 pa44_45_3 ((), ((e0, e1, e2, e3, e4, ()), (), ()), (e5, ())))) (fun r0 r1 r2 r3 r4 r5 => K .ret (mkSt2 pb44_45_3 ((r0, ()), ((r1, r2, r3, r4, r5, ()), (), ()), ()))) v0 v1 v2 v3 v4 v5 v6 v7 v8 := by kernel_rfl
theorem it44_45_3 {R : Type} (d : Nat) (K : Ex → St → Option R) : ∀ (n : Nat) (v0 : List (Bool)) (v1 : List (Bool)) (v2 : Int) (v3 : List UInt8) (v4 : List (Bool)) (v5 : List UInt8) (v6 : List (Bool)) (v7 : List (Bool)) (v8 : List (Bool)),
    iter (some k44_45_3) (runD env44 (d + 6) 45 c44_45_3) n (mkSt2 p44_45_3 ((v0, v1, v2, ()), ((v3, v4, v5, v6, v7, ()), (), ()), (v8, ()))) K = obind (lp44_45_3 n v0 v1 v2 v3 v4 v5 v6 v7 v8) fun o => osum o (fun a => K (.exit 0) (mkSt2 pa44_45_3 a)) fun b => K .ret (mkSt2 pb44_45_3 b)
  | 0, _, _, _, _, _, _, _, _, _ => rfl
  | n + 1, v0, v1, v2, v3, v4, v5, v6, v7, v8 => by
    rw [step44_45_3]
    simp only [it44_45_3 d K n, lp44_45_3, st44_45_3, obind_cond, obind_none, obind_some, obind_obind, obind_osum]
    try simp only [osum]
theorem ok44_45_3 : LoopOk env44 45 c44_45_3 ls44_45_3 := loopBy2_ok (by kernel_rfl) fun R d K v o h => ⟨fuelN, (it44_45_3 d K fuelN (v.1.1) (v.1.2.1) (v.1.2.2.1) (v.2.1.1.1) (v.2.1.1.2.1) (v.2.1.1.2.2.1) (v.2.1.1.2.2.2.1) (v.2.1.1.2.2.2.2.1) (v.2.2.1)).trans (congrArg (fun o => obind o _) h)⟩
theorem step44_3 {R : Type} (d : Nat) (n : Nat) (K : Ex → St → Option R) (v0 : List UInt8) (v1 : List UInt8) (v2 : Int) (v3 : List (Bool)) :
    iter (some k44_3) (runD env44 (d + 12) 44 c44_3) (n + 1) (mkSt p44_3 ((v0, v1, v2, ()), (v3, ()))) K =
      st44_3 (fun v0 v1 v2 v3 => iter (some k44_3) (runD env44 (d + 12) 44 c44_3) n (mkSt p44_3 ((v0, v1, v2, ()), (v3, ()))) K) (fun e0 => K (.exit 0) (mkSt pa44_3 ((), (e0, ())))) (fun r0 => K .ret (mkSt pb44_3 ((r0, ()), ()))) v0 v1 v2 v3 := by kernel_rfl
theorem it44_3 {R : Type} (d : Nat) (K : Ex → St → Option R) : ∀ (n : Nat) (v0 : List UInt8) (v1 : List UInt8) (v2 : Int) (v3 : List (Bool)),
    iter (some k44_3) (runD env44 (d + 12) 44 c44_3) n (mkSt p44_3 ((v0, v1, v2, ()), (v3, ()))) K = obind (lp44_3 n v0 v1 v2 v3) fun o => osum o (fun a => K (.exit 0) (mkSt pa44_3 a)) fun b => K .ret (mkSt pb44_3 b)
  | 0, _, _, _, _ => rfl
  | n + 1, v0, v1, v2, v3 => by
    rw [step44_3]
    simp only [it44_3 d K n, lp44_3, st44_3, obind_cond, obind_none, obind_some, obind_obind, obind_osum]
    try simp only [osum]
theorem ok44_3 : LoopOk env44 44 c44_3 ls44_3 := loopBy_ok (by kernel_rfl) fun R d K v o h => ⟨fuelN, (it44_3 d K fuelN (v.1.1) (v.1.2.1) (v.1.2.2.1) (v.2.1)).trans (congrArg (fun o => obind o _) h)⟩
theorem run44 (x0 : List UInt8) (x1 : List (Bool)) (x2 : List UInt8) : runF env44 44 [.str, .list .bool, .str] [(.list .bool, false)] (x0, x1, x2, ()) = fn44 x0 x1 x2 := by kernel_rfl
theorem lat44 : loopsAt b44 = [c44_3] := by kernel_rfl
theorem lok44 : loopsOk env44 44 b44 := loopsOk_at b44 (fun _ => rfl) (by rw [lat44]; exact (List.forall_mem_cons.2 ⟨(fun L h => by rw [show env44.lp 44 (firstRegion c44_3) = some ls44_3 by kernel_rfl] at h; cases h; exact ok44_3), (fun _ h => absurd h List.not_mem_nil)⟩))
theorem lat44_45 : loopsAt b44_45 = [c44_45_3] := by kernel_rfl
theorem lok44_45 : loopsOk env44 45 b44_45 := loopsOk_at b44_45 (fun _ => rfl) (by rw [lat44_45]; exact (List.forall_mem_cons.2 ⟨(fun L h => by rw [show env44.lp 45 (firstRegion c44_45_3) = some ls44_45_3 by kernel_rfl] at h; cases h; exact ok44_45_3), (fun _ h => absurd h List.not_mem_nil)⟩))
theorem env44_ok : EnvOk env44 := envOf2_ok tok mixed noGor (sg := [(37, sum37)]) (List.forall_mem_cons.2 ⟨(sum37_ok), (fun _ h => absurd h List.not_mem_nil)⟩) [44, 45] (by kernel_rfl) (by kernel_rfl) (List.forall_mem_cons.2 ⟨⟨Try.f44, b44, by kernel_rfl, by kernel_rfl, lok44⟩, (List.forall_mem_cons.2 ⟨⟨Try.f45, b44_45, by kernel_rfl, by kernel_rfl, lok44_45⟩, (fun _ h => absurd h List.not_mem_nil)⟩)⟩) rf_ok chk_ok
theorem sum44_ok : SumOk Try.prog 44 sum44 := sum_of_run env44_ok (by decide) fun x y h => (run44 (x.1) (x.2.1) (x.2.2.1)).trans h

/-! ### quillwort/quillwortref12.or -/
noncomputable def b45 : Code := (Try.f45.body).getD .skip
noncomputable def c45_3 : Code := cA (cA (cB (cA (cB (cB (b45))))))
def k45_3 : Keep := ⟨[0, 1, 5, 6, 100003], [], [5], [], [4], [(4, .bool)]⟩
def p45_3 : SP := ⟨us [.v (.list .bool), .v (.list .bool), .u, .u, .u, .slc 1000009, .v (.int .i64)] 23, [.arr 1000009 .bool]⟩
def pa45_3 : SP := ⟨us [.u, .u, .u, .u, .u, .slc 1000009] 24, [.arr 1000009 .bool]⟩
def pb45_3 : SP := ⟨us [.u, .u, .u, .u, .v (.list .bool)] 25, []⟩
def st45_3 {γ : Type} (rec : (List (Bool)) → (List (Bool)) → Int → (List (Bool)) → Option γ) (kE : (List (Bool)) → Option γ) (kR : (List (Bool)) → Option γ) (v0 : List (Bool)) (v1 : List (Bool)) (v2 : Int) (v3 : List (Bool)) : Option γ :=
  bif (ltI v2 (lenI v0)) then
    bif (inI v0 v2) then
      bif (getI v0 false v2) then
        bif (inI v3 v2) then
          bif (ltL (natI v2) v3) then
            rec v0 v1 (addK .i64 v2 1) (setI v3 (natI v2) true)
          else
          none
        else
        none
      else
      bif (inI v1 v2) then
        bif (inI v3 v2) then
          bif (ltL (natI v2) v3) then
            rec v0 v1 (addK .i64 v2 1) (setI v3 (natI v2) (getI v1 false v2))
          else
          none
        else
        none
      else
      none
    else
    none
  else
  kE v3
def lp45_3 : Nat → (List (Bool)) → (List (Bool)) → Int → (List (Bool)) → Option (pa45_3.den ⊕ pb45_3.den)
  | 0, _, _, _, _ => none
  | n + 1, v0, v1, v2, v3 => st45_3 (lp45_3 n) (fun e0 => some (.inl ((), (e0, ())))) (fun r0 => some (.inr ((r0, ()), ()))) v0 v1 v2 v3
noncomputable def ls45_3 : LoopSum := loopBy k45_3 p45_3 pa45_3 pb45_3 (.exit 0) (fun v => lp45_3 fuelN v.1.1 v.1.2.1 v.1.2.2.1 v.2.1) 6
def fn45 (x0 : List (Bool)) (x1 : List (Bool)) : Option ((List (Bool)) × Unit) :=
  bif ((leI 0 (lenI x0)) && ((leI (lenI x0) (lenI x0)) && (roomC (lenI x0) 1))) then
    obind (lp45_3 fuelN x0 x1 0 (repN (natI (lenI x0)) false)) fun y0 =>
      osum y0 (fun a1 =>
        some (a1.2.1, ())) (fun b1 =>
        some (b1.1.1, ()))
  else
  none
def sum45 : Sum := (⟨[.list .bool, .list .bool], [(.list .bool, false)], fun x => fn45 x.1 x.2.1⟩ : Sum)
noncomputable def env45 : Env := envOf Try.prog tt 45 [] [(3, k45_3)] [(3, ls45_3)]
theorem step45_3 {R : Type} (d : Nat) (n : Nat) (K : Ex → St → Option R) (v0 : List (Bool)) (v1 : List (Bool)) (v2 : Int) (v3 : List (Bool)) :
    iter (some k45_3) (runD env45 (d + 6) 45 c45_3) (n + 1) (mkSt p45_3 ((v0, v1, v2, ()), (v3, ()))) K =
      st45_3 (fun v0 v1 v2 v3 => iter (some k45_3) (runD env45 (d + 6) 45 c45_3) n (mkSt p45_3 ((v0, v1, v2, ()), (v3, ()))) K) (fun e0 => K (.exit 0) (mkSt pa45_3 ((), (e0, ())))) (fun r0 => K .ret (mkSt pb45_3 ((r0, ()), ()))) v0 v1 v2 v3 := by kernel_rfl
theorem it45_3 {R : Type} (d : Nat) (K : Ex → St → Option R) : ∀ (n : Nat) (v0 : List (Bool)) (v1 : List (Bool)) (v2 : Int) (v3 : List (Bool)),
    iter (some k45_3) (runD env45 (d + 6) 45 c45_3) n (mkSt p45_3 ((v0, v1, v2, ()), (v3, ()))) K = obind (lp45_3 n v0 v1 v2 v3) fun o => osum o (fun a => K (.exit 0) (mkSt pa45_3 a)) fun b => K .ret (mkSt pb45_3 b)
  | 0, _, _, _, _ => rfl
  | n + 1, v0, v1, v2, v3 => by
    rw [step45_3]
    simp only [it45_3 d K n, lp45_3, st45_3, obind_cond, obind_none, obind_some, obind_obind, obind_osum]
    try simp only [osum]
theorem ok45_3 : LoopOk env45 45 c45_3 ls45_3 := loopBy_ok (by kernel_rfl) fun R d K v o h => ⟨fuelN, (it45_3 d K fuelN (v.1.1) (v.1.2.1) (v.1.2.2.1) (v.2.1)).trans (congrArg (fun o => obind o _) h)⟩
theorem run45 (x0 : List (Bool)) (x1 : List (Bool)) : runF env45 45 [.list .bool, .list .bool] [(.list .bool, false)] (x0, x1, ()) = fn45 x0 x1 := by kernel_rfl
theorem lat45 : loopsAt b45 = [c45_3] := by kernel_rfl
theorem lok45 : loopsOk env45 45 b45 := loopsOk_at b45 (fun _ => rfl) (by rw [lat45]; exact (List.forall_mem_cons.2 ⟨(fun L h => by rw [show env45.lp 45 (firstRegion c45_3) = some ls45_3 by kernel_rfl] at h; cases h; exact ok45_3), (fun _ h => absurd h List.not_mem_nil)⟩))
theorem env45_ok : EnvOk env45 := envOf_ok tok mixed noGor (sg := []) (fun _ h => absurd h List.not_mem_nil) (fn := Try.f45) (c := b45) (by kernel_rfl) (by kernel_rfl) lok45 rf_ok chk_ok
theorem sum45_ok : SumOk Try.prog 45 sum45 := sum_of_run env45_ok (by decide) fun x y h => (run45 (x.1) (x.2.1)).trans h

/-! ### quillwort/quillwortref12.one -/
noncomputable def b46 : Code := (Try.f46.body).getD .skip
noncomputable def c46_3 : Code := cA (cA (cB (cA (cB (cB (b46))))))
def k46_3 : Keep := ⟨[0, 1, 2, 7, 8, 100003], [], [7], [], [6], [(6, .bool)]⟩
def p46_3 : SP := ⟨us [.v .str, .v (.list .bool), .v .str, .u, .u, .u, .u, .slc 1000011, .v (.int .i64)] 25, [.arr 1000011 .bool]⟩
def pa46_3 : SP := ⟨us [.u, .u, .u, .u, .u, .u, .u, .slc 1000011] 26, [.arr 1000011 .bool]⟩
def pb46_3 : SP := ⟨us [.u, .u, .u, .u, .u, .u, .v (.list .bool)] 27, []⟩
def st46_3 {γ : Type} (rec : (List UInt8) → (List (Bool)) → (List UInt8) → Int → (List (Bool)) → Option γ) (kE : (List (Bool)) → Option γ) (kR : (List (Bool)) → Option γ) (v0 : List UInt8) (v1 : List (Bool)) (v2 : List UInt8) (v3 : Int) (v4 : List (Bool)) : Option γ :=
  bif (ltI v3 (lenI v0)) then
    bif (inI v1 v3) then
      bif (getI v1 false v3) then
        bif (inI v0 v3) then
          obind (fn37 (byteAt v0 v3) v2) fun y0 =>
            bif (inI v4 (addK .i64 v3 1)) then
              bif (ltL (natI (addK .i64 v3 1)) v4) then
                rec v0 v1 v2 (addK .i64 v3 1) (setI v4 (natI (addK .i64 v3 1)) y0.1)
              else
              none
            else
            none
        else
        none
      else
      bif (inI v4 (addK .i64 v3 1)) then
        bif (ltL (natI (addK .i64 v3 1)) v4) then
          rec v0 v1 v2 (addK .i64 v3 1) (setI v4 (natI (addK .i64 v3 1)) false)
        else
        none
      else
      none
    else
    none
  else
  kE v4
def lp46_3 : Nat → (List UInt8) → (List (Bool)) → (List UInt8) → Int → (List (Bool)) → Option (pa46_3.den ⊕ pb46_3.den)
  | 0, _, _, _, _, _ => none
  | n + 1, v0, v1, v2, v3, v4 => st46_3 (lp46_3 n) (fun e0 => some (.inl ((), (e0, ())))) (fun r0 => some (.inr ((r0, ()), ()))) v0 v1 v2 v3 v4
noncomputable def ls46_3 : LoopSum := loopBy k46_3 p46_3 pa46_3 pb46_3 (.exit 0) (fun v => lp46_3 fuelN v.1.1 v.1.2.1 v.1.2.2.1 v.1.2.2.2.1 v.2.1) 6
def fn46 (x0 : List UInt8) (x1 : List (Bool)) (x2 : List UInt8) : Option ((List (Bool)) × Unit) :=
  bif ((leI 0 (lenI x1)) && ((leI (lenI x1) (lenI x1)) && (roomC (lenI x1) 1))) then
    obind (lp46_3 fuelN x0 x1 x2 0 (repN (natI (lenI x1)) false)) fun y0 =>
      osum y0 (fun a1 =>
        some (a1.2.1, ())) (fun b1 =>
        some (b1.1.1, ()))
  else
  none
def sum46 : Sum := (⟨[.str, .list .bool, .str], [(.list .bool, false)], fun x => fn46 x.1 x.2.1 x.2.2.1⟩ : Sum)
noncomputable def env46 : Env := envOf Try.prog tt 46 [(37, sum37)] [(3, k46_3)] [(3, ls46_3)]
theorem step46_3 {R : Type} (d : Nat) (n : Nat) (K : Ex → St → Option R) (v0 : List UInt8) (v1 : List (Bool)) (v2 : List UInt8) (v3 : Int) (v4 : List (Bool)) :
    iter (some k46_3) (runD env46 (d + 6) 46 c46_3) (n + 1) (mkSt p46_3 ((v0, v1, v2, v3, ()), (v4, ()))) K =
      st46_3 (fun v0 v1 v2 v3 v4 => iter (some k46_3) (runD env46 (d + 6) 46 c46_3) n (mkSt p46_3 ((v0, v1, v2, v3, ()), (v4, ()))) K) (fun e0 => K (.exit 0) (mkSt pa46_3 ((), (e0, ())))) (fun r0 => K .ret (mkSt pb46_3 ((r0, ()), ()))) v0 v1 v2 v3 v4 := by kernel_rfl
theorem it46_3 {R : Type} (d : Nat) (K : Ex → St → Option R) : ∀ (n : Nat) (v0 : List UInt8) (v1 : List (Bool)) (v2 : List UInt8) (v3 : Int) (v4 : List (Bool)),
    iter (some k46_3) (runD env46 (d + 6) 46 c46_3) n (mkSt p46_3 ((v0, v1, v2, v3, ()), (v4, ()))) K = obind (lp46_3 n v0 v1 v2 v3 v4) fun o => osum o (fun a => K (.exit 0) (mkSt pa46_3 a)) fun b => K .ret (mkSt pb46_3 b)
  | 0, _, _, _, _, _ => rfl
  | n + 1, v0, v1, v2, v3, v4 => by
    rw [step46_3]
    simp only [it46_3 d K n, lp46_3, st46_3, obind_cond, obind_none, obind_some, obind_obind, obind_osum]
    try simp only [osum]
theorem ok46_3 : LoopOk env46 46 c46_3 ls46_3 := loopBy_ok (by kernel_rfl) fun R d K v o h => ⟨fuelN, (it46_3 d K fuelN (v.1.1) (v.1.2.1) (v.1.2.2.1) (v.1.2.2.2.1) (v.2.1)).trans (congrArg (fun o => obind o _) h)⟩
theorem run46 (x0 : List UInt8) (x1 : List (Bool)) (x2 : List UInt8) : runF env46 46 [.str, .list .bool, .str] [(.list .bool, false)] (x0, x1, x2, ()) = fn46 x0 x1 x2 := by kernel_rfl
theorem lat46 : loopsAt b46 = [c46_3] := by kernel_rfl
theorem lok46 : loopsOk env46 46 b46 := loopsOk_at b46 (fun _ => rfl) (by rw [lat46]; exact (List.forall_mem_cons.2 ⟨(fun L h => by rw [show env46.lp 46 (firstRegion c46_3) = some ls46_3 by kernel_rfl] at h; cases h; exact ok46_3), (fun _ h => absurd h List.not_mem_nil)⟩))
theorem env46_ok : EnvOk env46 := envOf_ok tok mixed noGor (sg := [(37, sum37)]) (List.forall_mem_cons.2 ⟨(sum37_ok), (fun _ h => absurd h List.not_mem_nil)⟩) (fn := Try.f46) (c := b46) (by kernel_rfl) (by kernel_rfl) lok46 rf_ok chk_ok
theorem sum46_ok : SumOk Try.prog 46 sum46 := sum_of_run env46_ok (by decide) fun x y h => (run46 (x.1) (x.2.1) (x.2.2.1)).trans h

/-! ### quillwort/quillwortref12.sep -/
def fn48 (x0 : List UInt8) (x1 : List (Bool)) : Option ((List (Bool)) × Unit) :=
  obind (fn46 x0 x1 [59, 38]) fun y0 =>
    obind (fn44 x0 y0.1 [110]) fun y1 =>
      obind (fn46 x0 x1 [110]) fun y2 =>
        obind (fn44 x0 y2.1 [110]) fun y3 =>
          obind (fn45 y1.1 y3.1) fun y4 =>
            some (y4.1, ())
def sum48 : Sum := (⟨[.str, .list .bool], [(.list .bool, false)], fun x => fn48 x.1 x.2.1⟩ : Sum)
noncomputable def env48 : Env := envOf Try.prog tt 48 [(44, sum44), (45, sum45), (46, sum46)] [] []
theorem run48 (x0 : List UInt8) (x1 : List (Bool)) : runF env48 48 [.str, .list .bool] [(.list .bool, false)] (x0, x1, ()) = fn48 x0 x1 := by kernel_rfl
theorem env48_ok : EnvOk env48 := envOf_ok tok mixed noGor (sg := [(44, sum44), (45, sum45), (46, sum46)]) (List.forall_mem_cons.2 ⟨(sum44_ok), (List.forall_mem_cons.2 ⟨(sum45_ok), (List.forall_mem_cons.2 ⟨(sum46_ok), (fun _ h => absurd h List.not_mem_nil)⟩)⟩)⟩) (fn := Try.f48) (c := (Try.f48.body).getD .skip) (by kernel_rfl) (by kernel_rfl) (loopsOk_none (fun _ => rfl) (fun _ => rfl) _) rf_ok chk_ok
theorem sum48_ok : SumOk Try.prog 48 sum48 := sum_of_run env48_ok (by decide) fun x y h => (run48 (x.1) (x.2.1)).trans h

/-! ### quillwort/quillwortref12.list -/
def fn49 (x0 : List UInt8) (x1 : List (Bool)) : Option ((List (Bool)) × Unit) :=
  obind (fn44 x0 x1 [110]) fun y0 =>
    obind (fn46 x0 y0.1 [76]) fun y1 =>
      some (y1.1, ())
def sum49 : Sum := (⟨[.str, .list .bool], [(.list .bool, false)], fun x => fn49 x.1 x.2.1⟩ : Sum)
noncomputable def env49 : Env := envOf Try.prog tt 49 [(44, sum44), (46, sum46)] [] []
theorem run49 (x0 : List UInt8) (x1 : List (Bool)) : runF env49 49 [.str, .list .bool] [(.list .bool, false)] (x0, x1, ()) = fn49 x0 x1 := by kernel_rfl
theorem env49_ok : EnvOk env49 := envOf_ok tok mixed noGor (sg := [(44, sum44), (46, sum46)]) (List.forall_mem_cons.2 ⟨(sum44_ok), (List.forall_mem_cons.2 ⟨(sum46_ok), (fun _ h => absurd h List.not_mem_nil)⟩)⟩) (fn := Try.f49) (c := (Try.f49.body).getD .skip) (by kernel_rfl) (by kernel_rfl) (loopsOk_none (fun _ => rfl) (fun _ => rfl) _) rf_ok chk_ok
theorem sum49_ok : SumOk Try.prog 49 sum49 := sum_of_run env49_ok (by decide) fun x y h => (run49 (x.1) (x.2.1)).trans h

/-! ### quillwort/quillwortref12.rep -/
noncomputable def b47 : Code := (Try.f47.body).getD .skip
noncomputable def c47_2 : Code := cA (cA (cB (cA (cB (b47)))))
def k47_2 : Keep := ⟨[0, 1, 2, 7, 100002], [], [1], [], [6], [(6, .bool)]⟩
def p47_2 : SP := ⟨us [.v .str, .v (.list .bool), .v (.int .i64), .u, .u, .u, .u, .v (.int .i64)] 62, []⟩
def pa47_2 : SP := ⟨us [.u, .v (.list .bool)] 68, []⟩
def pb47_2 : SP := ⟨us [.u, .u, .u, .u, .u, .u, .v (.list .bool)] 63, []⟩
def st47_2 {γ : Type} (rec : (List UInt8) → (List (Bool)) → Int → Int → Option γ) (kE : (List (Bool)) → Option γ) (kR : (List (Bool)) → Option γ) (v0 : List UInt8) (v1 : List (Bool)) (v2 : Int) (v3 : Int) : Option γ :=
  bif (leI v3 (lenI v0)) then
    bif (eqI v2 1) then
      obind (fn48 v0 v1) fun y0 =>
        obind (fn46 v0 y0.1 [65]) fun y1 =>
          obind (fn45 v1 y1.1) fun y2 =>
            rec v0 y2.1 v2 (addK .i64 v3 1)
    else
    bif (eqI v2 2) then
      obind (fn46 v0 v1 [97, 111]) fun y0 =>
        obind (fn44 v0 y0.1 [110]) fun y1 =>
          obind (fn46 v0 y1.1 [73]) fun y2 =>
            obind (fn45 v1 y2.1) fun y3 =>
              rec v0 y3.1 v2 (addK .i64 v3 1)
    else
    bif (eqI v2 3) then
      obind (fn46 v0 v1 [124]) fun y0 =>
        obind (fn44 v0 y0.1 [110]) fun y1 =>
          obind (fn46 v0 y1.1 [83, 66, 85, 70, 72, 79, 67, 78]) fun y2 =>
            obind (fn45 v1 y2.1) fun y3 =>
              rec v0 y3.1 v2 (addK .i64 v3 1)
    else
    bif (eqI v2 4) then
      obind (fn46 v0 v1 [101]) fun y0 =>
        obind (fn49 v0 y0.1) fun y1 =>
          obind (fn46 v0 y1.1 [116]) fun y2 =>
            obind (fn49 v0 y2.1) fun y3 =>
              obind (fn45 v1 y3.1) fun y4 =>
                rec v0 y4.1 v2 (addK .i64 v3 1)
    else
    bif (eqI v2 5) then
      obind (fn46 v0 v1 [84]) fun y0 =>
        obind (fn46 v0 y0.1 [121]) fun y1 =>
          obind (fn44 v0 y1.1 [110]) fun y2 =>
            obind (fn45 v1 y2.1) fun y3 =>
              rec v0 y3.1 v2 (addK .i64 v3 1)
    else
    obind (fn46 v0 v1 [124]) fun y0 =>
      obind (fn46 v0 y0.1 [87]) fun y1 =>
        obind (fn45 v1 y1.1) fun y2 =>
          rec v0 y2.1 v2 (addK .i64 v3 1)
  else
  kE v1
def lp47_2 : Nat → (List UInt8) → (List (Bool)) → Int → Int → Option (pa47_2.den ⊕ pb47_2.den)
  | 0, _, _, _, _ => none
  | n + 1, v0, v1, v2, v3 => st47_2 (lp47_2 n) (fun e0 => some (.inl ((e0, ()), ()))) (fun r0 => some (.inr ((r0, ()), ()))) v0 v1 v2 v3
noncomputable def ls47_2 : LoopSum := loopBy k47_2 p47_2 pa47_2 pb47_2 (.exit 0) (fun v => lp47_2 fuelN v.1.1 v.1.2.1 v.1.2.2.1 v.1.2.2.2.1) 6
def fn47 (x0 : List UInt8) (x1 : List (Bool)) (x2 : Int) : Option ((List (Bool)) × Unit) :=
  obind (lp47_2 fuelN x0 x1 x2 0) fun y0 =>
    osum y0 (fun a1 =>
      some (a1.1.1, ())) (fun b1 =>
      some (b1.1.1, ()))
def sum47 : Sum := (⟨[.str, .list .bool, .int .i64], [(.list .bool, false)], fun x => fn47 x.1 x.2.1 x.2.2.1⟩ : Sum)
noncomputable def env47 : Env := envOf Try.prog tt 47 [(44, sum44), (45, sum45), (46, sum46), (48, sum48), (49, sum49)] [(2, k47_2)] [(2, ls47_2)]
theorem step47_2 {R : Type} (d : Nat) (n : Nat) (K : Ex → St → Option R) (v0 : List UInt8) (v1 : List (Bool)) (v2 : Int) (v3 : Int) :
    iter (some k47_2) (runD env47 (d + 6) 47 c47_2) (n + 1) (mkSt p47_2 ((v0, v1, v2, v3, ()), ())) K =
      st47_2 (fun v0 v1 v2 v3 => iter (some k47_2) (runD env47 (d + 6) 47 c47_2) n (mkSt p47_2 ((v0, v1, v2, v3, ()), ())) K) (fun e0 => K (.exit 0) (mkSt pa47_2 ((e0, ()), ()))) (fun r0 => K .ret (mkSt pb47_2 ((r0, ()), ()))) v0 v1 v2 v3 := by kernel_rfl
theorem it47_2 {R : Type} (d : Nat) (K : Ex → St → Option R) : ∀ (n : Nat) (v0 : List UInt8) (v1 : List (Bool)) (v2 : Int) (v3 : Int),
    iter (some k47_2) (runD env47 (d + 6) 47 c47_2) n (mkSt p47_2 ((v0, v1, v2, v3, ()), ())) K = obind (lp47_2 n v0 v1 v2 v3) fun o => osum o (fun a => K (.exit 0) (mkSt pa47_2 a)) fun b => K .ret (mkSt pb47_2 b)
  | 0, _, _, _, _ => rfl
  | n + 1, v0, v1, v2, v3 => by
    rw [step47_2]
    simp only [it47_2 d K n, lp47_2, st47_2, obind_cond, obind_none, obind_some, obind_obind, obind_osum]
    try simp only [osum]
theorem ok47_2 : LoopOk env47 47 c47_2 ls47_2 := loopBy_ok (by kernel_rfl) fun R d K v o h => ⟨fuelN, (it47_2 d K fuelN (v.1.1) (v.1.2.1) (v.1.2.2.1) (v.1.2.2.2.1)).trans (congrArg (fun o => obind o _) h)⟩
theorem run47 (x0 : List UInt8) (x1 : List (Bool)) (x2 : Int) : runF env47 47 [.str, .list .bool, .int .i64] [(.list .bool, false)] (x0, x1, x2, ()) = fn47 x0 x1 x2 := by kernel_rfl
theorem lat47 : loopsAt b47 = [c47_2] := by kernel_rfl
theorem lok47 : loopsOk env47 47 b47 := loopsOk_at b47 (fun _ => rfl) (by rw [lat47]; exact (List.forall_mem_cons.2 ⟨(fun L h => by rw [show env47.lp 47 (firstRegion c47_2) = some ls47_2 by kernel_rfl] at h; cases h; exact ok47_2), (fun _ h => absurd h List.not_mem_nil)⟩))
theorem env47_ok : EnvOk env47 := envOf_ok tok mixed noGor (sg := [(44, sum44), (45, sum45), (46, sum46), (48, sum48), (49, sum49)]) (List.forall_mem_cons.2 ⟨(sum44_ok), (List.forall_mem_cons.2 ⟨(sum45_ok), (List.forall_mem_cons.2 ⟨(sum46_ok), (List.forall_mem_cons.2 ⟨(sum48_ok), (List.forall_mem_cons.2 ⟨(sum49_ok), (fun _ h => absurd h List.not_mem_nil)⟩)⟩)⟩)⟩)⟩) (fn := Try.f47) (c := b47) (by kernel_rfl) (by kernel_rfl) lok47 rf_ok chk_ok
theorem sum47_ok : SumOk Try.prog 47 sum47 := sum_of_run env47_ok (by decide) fun x y h => (run47 (x.1) (x.2.1) (x.2.2.1)).trans h

/-! ### quillwort/quillwortref12.Form -/
def fn31 (x0 : Int) (x1 : List UInt8) : Option (Bool × Unit) :=
  obind (fn43 x1) fun y0 =>
    bif (eqI x0 1) then
      obind (fn44 x1 y0.1 [110]) fun y1 =>
        obind (fn46 x1 y1.1 [76]) fun y2 =>
          obind (fn45 y1.1 y2.1) fun y3 =>
            bif (inI y3.1 (lenI x1)) then
              some ((getI y3.1 false (lenI x1)), ())
            else
            none
    else
    bif (eqI x0 2) then
      obind (fn46 x1 y0.1 [65]) fun y1 =>
        obind (fn47 x1 y1.1 1) fun y2 =>
          obind (fn48 x1 y2.1) fun y3 =>
            obind (fn45 y2.1 y3.1) fun y4 =>
              bif (inI y4.1 (lenI x1)) then
                some ((getI y4.1 false (lenI x1)), ())
              else
              none
    else
    bif (eqI x0 3) then
      obind (fn46 x1 y0.1 [73]) fun y1 =>
        obind (fn47 x1 y1.1 2) fun y2 =>
          bif (inI y2.1 (lenI x1)) then
            some ((getI y2.1 false (lenI x1)), ())
          else
          none
    else
    bif (eqI x0 4) then
      obind (fn46 x1 y0.1 [33]) fun y1 =>
        obind (fn45 y0.1 y1.1) fun y2 =>
          obind (fn46 x1 y2.1 [83, 66, 85, 70, 72, 79, 67, 78]) fun y3 =>
            obind (fn47 x1 y3.1 3) fun y4 =>
              bif (inI y4.1 (lenI x1)) then
                some ((getI y4.1 false (lenI x1)), ())
              else
              none
    else
    bif (eqI x0 5) then
      bif (eqS x1 []) then
        some (false, ())
      else
      obind (fn44 x1 y0.1 [88, 82]) fun y1 =>
        obind (fn46 x1 y1.1 [87]) fun y2 =>
          obind (fn44 x1 y2.1 [87, 82]) fun y3 =>
            obind (fn45 y1.1 y3.1) fun y4 =>
              bif (inI y4.1 (lenI x1)) then
                some ((getI y4.1 false (lenI x1)), ())
              else
              none
    else
    bif (eqI x0 8) then
      obind (fn46 x1 y0.1 [35]) fun y1 =>
        obind (fn45 y0.1 y1.1) fun y2 =>
          obind (fn46 x1 y2.1 [60]) fun y3 =>
            obind (fn46 x1 y3.1 [87]) fun y4 =>
              bif (inI y4.1 (lenI x1)) then
                some ((getI y4.1 false (lenI x1)), ())
              else
              none
    else
    bif (eqI x0 9) then
      obind (fn46 x1 y0.1 [123]) fun y1 =>
        obind (fn49 x1 y1.1) fun y2 =>
          obind (fn46 x1 y2.1 [125]) fun y3 =>
            obind (fn44 x1 y3.1 [82]) fun y4 =>
              bif (inI y4.1 (lenI x1)) then
                some ((getI y4.1 false (lenI x1)), ())
              else
              none
    else
    bif (eqI x0 10) then
      obind (fn46 x1 y0.1 [40]) fun y1 =>
        obind (fn49 x1 y1.1) fun y2 =>
          obind (fn46 x1 y2.1 [41]) fun y3 =>
            obind (fn44 x1 y3.1 [82]) fun y4 =>
              bif (inI y4.1 (lenI x1)) then
                some ((getI y4.1 false (lenI x1)), ())
              else
              none
    else
    bif (eqI x0 11) then
      obind (fn46 x1 y0.1 [105]) fun y1 =>
        obind (fn49 x1 y1.1) fun y2 =>
          obind (fn46 x1 y2.1 [116]) fun y3 =>
            obind (fn49 x1 y3.1) fun y4 =>
              obind (fn47 x1 y4.1 4) fun y5 =>
                obind (fn46 x1 y5.1 [108]) fun y6 =>
                  obind (fn49 x1 y6.1) fun y7 =>
                    obind (fn45 y5.1 y7.1) fun y8 =>
                      obind (fn46 x1 y8.1 [102]) fun y9 =>
                        obind (fn44 x1 y9.1 [82]) fun y10 =>
                          bif (inI y10.1 (lenI x1)) then
                            some ((getI y10.1 false (lenI x1)), ())
                          else
                          none
    else
    bif (eqI x0 12) then
      obind (fn46 x1 y0.1 [119]) fun y1 =>
        obind (fn49 x1 y1.1) fun y2 =>
          obind (fn46 x1 y2.1 [100]) fun y3 =>
            obind (fn49 x1 y3.1) fun y4 =>
              obind (fn46 x1 y4.1 [103]) fun y5 =>
                obind (fn44 x1 y5.1 [82]) fun y6 =>
                  bif (inI y6.1 (lenI x1)) then
                    some ((getI y6.1 false (lenI x1)), ())
                  else
                  none
    else
    bif (eqI x0 13) then
      obind (fn46 x1 y0.1 [114]) fun y1 =>
        obind (fn46 x1 y1.1 [87]) fun y2 =>
          obind (fn44 x1 y2.1 [110]) fun y3 =>
            obind (fn46 x1 y3.1 [107]) fun y4 =>
              obind (fn44 x1 y4.1 [87]) fun y5 =>
                obind (fn46 x1 y5.1 [59]) fun y6 =>
                  obind (fn44 x1 y6.1 [110]) fun y7 =>
                    obind (fn46 x1 y5.1 [110]) fun y8 =>
                      obind (fn44 x1 y8.1 [110]) fun y9 =>
                        obind (fn45 y7.1 y9.1) fun y10 =>
                          obind (fn46 x1 y2.1 [59]) fun y11 =>
                            obind (fn44 x1 y11.1 [110]) fun y12 =>
                              obind (fn44 x1 y2.1 [110]) fun y13 =>
                                obind (fn45 y12.1 y13.1) fun y14 =>
                                  obind (fn45 y10.1 y14.1) fun y15 =>
                                    obind (fn46 x1 y15.1 [100]) fun y16 =>
                                      obind (fn49 x1 y16.1) fun y17 =>
                                        obind (fn46 x1 y17.1 [103]) fun y18 =>
                                          obind (fn44 x1 y18.1 [82]) fun y19 =>
                                            bif (inI y19.1 (lenI x1)) then
                                              some ((getI y19.1 false (lenI x1)), ())
                                            else
                                            none
    else
    bif (eqI x0 14) then
      obind (fn46 x1 y0.1 [99]) fun y1 =>
        obind (fn46 x1 y1.1 [87]) fun y2 =>
          obind (fn44 x1 y2.1 [110]) fun y3 =>
            obind (fn46 x1 y3.1 [107]) fun y4 =>
              obind (fn44 x1 y4.1 [110]) fun y5 =>
                obind (fn47 x1 y5.1 5) fun y6 =>
                  obind (fn46 x1 y6.1 [84]) fun y7 =>
                    obind (fn45 y6.1 y7.1) fun y8 =>
                      obind (fn46 x1 y8.1 [122]) fun y9 =>
                        obind (fn44 x1 y9.1 [82]) fun y10 =>
                          bif (inI y10.1 (lenI x1)) then
                            some ((getI y10.1 false (lenI x1)), ())
                          else
                          none
    else
    bif (eqI x0 15) then
      obind (fn46 x1 y0.1 [40]) fun y1 =>
        obind (fn45 y0.1 y1.1) fun y2 =>
          obind (fn46 x1 y2.1 [87]) fun y3 =>
            obind (fn47 x1 y3.1 6) fun y4 =>
              obind (fn46 x1 y4.1 [41]) fun y5 =>
                obind (fn44 x1 y5.1 [110]) fun y6 =>
                  obind (fn46 x1 y6.1 [76]) fun y7 =>
                    obind (fn45 y6.1 y7.1) fun y8 =>
                      bif (inI y8.1 (lenI x1)) then
                        some ((getI y8.1 false (lenI x1)), ())
                      else
                      none
    else
    bif (eqI x0 16) then
      obind (fn46 x1 y0.1 [87]) fun y1 =>
        obind (fn46 x1 y1.1 [40]) fun y2 =>
          obind (fn46 x1 y2.1 [41]) fun y3 =>
            obind (fn44 x1 y3.1 [110]) fun y4 =>
              obind (fn46 x1 y4.1 [66, 85, 70, 72, 79, 67]) fun y5 =>
                bif (inI y5.1 (lenI x1)) then
                  some ((getI y5.1 false (lenI x1)), ())
                else
                none
    else
    some (false, ())
def sum31 : Sum := (⟨[.int .i64, .str], [(.bool, false)], fun x => fn31 x.1 x.2.1⟩ : Sum)
noncomputable def env31 : Env := envOf Try.prog tt 31 [(43, sum43), (44, sum44), (45, sum45), (46, sum46), (47, sum47), (48, sum48), (49, sum49)] [] []
theorem run31 (x0 : Int) (x1 : List UInt8) : runF env31 31 [.int .i64, .str] [(.bool, false)] (x0, x1, ()) = fn31 x0 x1 := by kernel_rfl
theorem env31_ok : EnvOk env31 := envOf_ok tok mixed noGor (sg := [(43, sum43), (44, sum44), (45, sum45), (46, sum46), (47, sum47), (48, sum48), (49, sum49)]) (List.forall_mem_cons.2 ⟨(sum43_ok), (List.forall_mem_cons.2 ⟨(sum44_ok), (List.forall_mem_cons.2 ⟨(sum45_ok), (List.forall_mem_cons.2 ⟨(sum46_ok), (List.forall_mem_cons.2 ⟨(sum47_ok), (List.forall_mem_cons.2 ⟨(sum48_ok), (List.forall_mem_cons.2 ⟨(sum49_ok), (fun _ h => absurd h List.not_mem_nil)⟩)⟩)⟩)⟩)⟩)⟩)⟩) (fn := Try.f31) (c := (Try.f31.body).getD .skip) (by kernel_rfl) (by kernel_rfl) (loopsOk_none (fun _ => rfl) (fun _ => rfl) _) rf_ok chk_ok
theorem sum31_ok : SumOk Try.prog 31 sum31 := sum_of_run env31_ok (by decide) fun x y h => (run31 (x.1) (x.2.1)).trans h

end Go.Proofs.Ytkloefipjbeneaa
