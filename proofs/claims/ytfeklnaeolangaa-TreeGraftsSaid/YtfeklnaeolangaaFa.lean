/-
  The plain functions of some functions of the program, and that they are computed.
-/
import Derived.Test.YtfeklnaeolangaaE
import Derived.Test.YtfeklnaeolangaaBc
namespace Go.Proofs.Ytfeklnaeolangaa
open Go.RowKit
set_option linter.unusedVariables false
set_option linter.unusedSimpArgs false
set_option maxRecDepth 100000

def sumAwake : Sum := ⟨[], [(.bool, false)], fun _ => some (true, ())⟩
theorem sumAwake_ok : SumOk Try.prog 10 sumAwake := sum_of_run env0_ok (by decide) fun x y h => by
  cases h
  exact (show runF env0 10 [] [(.bool, false)] () = some (true, ()) by kernel_rfl)

/-! ### quillwort/tree.fits -/
def fn25 (x0 : Int × Int × Int × Int × Unit) : Option (Bool × Unit) :=
  bif (leI 1 x0.1) then
    bif (leI x0.1 18) then
      some ((leI x0.2.1 x0.2.2.1), ())
    else
    some (false, ())
  else
  some (false, ())
def sum25 : Sum := (⟨[.pair (.int .i64) (.pair (.int .i64) (.pair (.int .i64) (.pair (.int .i64) .unit)))], [(.bool, false)], fun x => fn25 x.1⟩ : Sum)
noncomputable def env25 : Env := envOf Try.prog tt 25 [] [] []
theorem run25 (x0 : Int × Int × Int × Int × Unit) : runF env25 25 [.pair (.int .i64) (.pair (.int .i64) (.pair (.int .i64) (.pair (.int .i64) .unit)))] [(.bool, false)] (x0, ()) = fn25 x0 := by kernel_rfl
theorem env25_ok : EnvOk env25 := envOf_ok tok mixed noGor (sg := []) (fun _ h => absurd h List.not_mem_nil) (fn := Try.f25) (c := (Try.f25.body).getD .skip) (by kernel_rfl) (by kernel_rfl) (loopsOk_none (fun _ => rfl) _)
theorem sum25_ok : SumOk Try.prog 25 sum25 := sum_of_run env25_ok (by decide) fun x y h => (run25 (x.1)).trans h

/-! ### quillwort/tree.Check -/
noncomputable def b11 : Code := (Try.f11.body).getD .skip
noncomputable def c11_9 : Code := cA (cA (cA (cB (cA (cA (cB (cA (cA (cB (cA (cB (cB (cB (cB (b11)))))))))))))))
noncomputable def c11_6 : Code := cA (cA (cB (cA (cB (cB (cB (cB (b11))))))))
def k11_9 : Keep := ⟨[0, 5, 6, 7, 8, 100009], [(5, (.int .i64))], [0, 5, 6, 7, 8], [], [4], []⟩
def k11_6 : Keep := ⟨[0, 5, 6, 7, 100006], [], [], [], [4], []⟩
def p11_9 : SP := ⟨us [.v (.list (.pair (.int .i64) (.pair (.int .i64) (.pair (.int .i64) (.pair (.int .i64) .unit))))), .u, .u, .u, .u, .slc 1000041, .slc 1000044, .v (.int .i64), .ptr 1000008 0] 111, [.box 1000008 [.v (.int .i64), .v (.int .i64), .v (.int .i64), .v (.int .i64)], .arr 1000044 (.int .i64), .arr 1000041 (.int .i64)]⟩
def pa11_9 : SP := ⟨us [.v (.list (.pair (.int .i64) (.pair (.int .i64) (.pair (.int .i64) (.pair (.int .i64) .unit))))), .u, .u, .u, .u, .slc 1000041, .slc 1000044, .v (.int .i64), .ptr 1000008 0] 111, [.box 1000008 [.v (.int .i64), .v (.int .i64), .v (.int .i64), .v (.int .i64)], .arr 1000044 (.int .i64), .arr 1000041 (.int .i64)]⟩
def pb11_9 : SP := ⟨us [.u, .u, .u, .u, .v .bool] 115, []⟩
def st11_9 {γ : Type} (rec : (List (Int × Int × Int × Int × Unit)) → Int → Int → Int → Int → Int → (List (Int)) → (List (Int)) → Option γ) (kE : (List (Int × Int × Int × Int × Unit)) → Int → Int → Int → Int → Int → (List (Int)) → (List (Int)) → Option γ) (kR : Bool → Option γ) (v0 : List (Int × Int × Int × Int × Unit)) (v1 : Int) (v2 : Int) (v3 : Int) (v4 : Int) (v5 : Int) (v6 : List (Int)) (v7 : List (Int)) : Option γ :=
  bif (ltI 0 (lenI v7)) then
    bif (inI v7 (subK .i64 (lenI v7) 1)) then
      bif (ltL (natI (subK .i64 (lenI v7) 1)) v7) then
        bif (!(eqI (nthN v7 0 (natI (subK .i64 (lenI v7) 1))) v5)) then
          bif (partI (lenI v7) 0 (subK .i64 (lenI v7) 1)) then
            rec v0 v1 v2 v3 v4 v5 v6 (takeN v7 (natI (subK .i64 (lenI v7) 1)))
          else
          none
        else
        kE v0 v1 v2 v3 v4 v5 v6 v7
      else
      none
    else
    none
  else
  kE v0 v1 v2 v3 v4 v5 v6 v7
def lp11_9 : Nat → (List (Int × Int × Int × Int × Unit)) → Int → Int → Int → Int → Int → (List (Int)) → (List (Int)) → Option (pa11_9.den ⊕ pb11_9.den)
  | 0, _, _, _, _, _, _, _, _ => none
  | n + 1, v0, v1, v2, v3, v4, v5, v6, v7 => st11_9 (lp11_9 n) (fun e0 e1 e2 e3 e4 e5 e6 e7 => some (.inl ((e0, e1, ()), ((e2, e3, e4, e5, ()), e6, e7, ())))) (fun r0 => some (.inr ((r0, ()), ()))) v0 v1 v2 v3 v4 v5 v6 v7
def ls11_9 : LoopSum := loopBy k11_9 p11_9 pa11_9 pb11_9 (.exit 2) fun v => lp11_9 fuelN v.1.1 v.1.2.1 v.2.1.1 v.2.1.2.1 v.2.1.2.2.1 v.2.1.2.2.2.1 v.2.2.1 v.2.2.2.1
def p11_6 : SP := ⟨us [.v (.list (.pair (.int .i64) (.pair (.int .i64) (.pair (.int .i64) (.pair (.int .i64) .unit))))), .u, .u, .u, .u, .slc 1000041, .slc 1000044, .v (.int .i64)] 112, [.arr 1000044 (.int .i64), .arr 1000041 (.int .i64)]⟩
def pa11_6 : SP := ⟨us [] 120, []⟩
def pb11_6 : SP := ⟨us [.u, .u, .u, .u, .v .bool] 115, []⟩
def st11_6 {γ : Type} (rec : (List (Int × Int × Int × Int × Unit)) → Int → (List (Int)) → (List (Int)) → Option γ) (kE : Option γ) (kR : Bool → Option γ) (v0 : List (Int × Int × Int × Int × Unit)) (v1 : Int) (v2 : List (Int)) (v3 : List (Int)) : Option γ :=
  bif (ltI v1 (lenI v0)) then
    bif (inI v0 v1) then
      obind (lp11_9 fuelN v0 v1 (getI v0 (0, (0, (0, (0, ())))) v1).1 (getI v0 (0, (0, (0, (0, ())))) v1).2.1 (getI v0 (0, (0, (0, (0, ())))) v1).2.2.1 (getI v0 (0, (0, (0, (0, ())))) v1).2.2.2.1 v2 v3) fun y0 =>
        osum y0 (fun a1 =>
          bif (eqI (lenI a1.2.2.2.1) 0) then
            kR false
          else
          obind (fn25 (a1.2.1.1, (a1.2.1.2.1, (a1.2.1.2.2.1, (a1.2.1.2.2.2.1, ()))))) fun y2 =>
            bif (!y2.1) then
              kR false
            else
            bif (inI a1.1.1 a1.2.1.2.2.2.1) then
              bif (inI a1.2.2.1 a1.2.1.2.2.2.1) then
                bif (ltL (natI a1.2.1.2.2.2.1) a1.2.2.1) then
                  bif (ltI a1.2.1.2.1 (maxI (getI a1.1.1 (0, (0, (0, (0, ())))) a1.2.1.2.2.2.1).2.1 (nthN a1.2.2.1 0 (natI a1.2.1.2.2.2.1)))) then
                    kR false
                  else
                  bif (inI a1.1.1 a1.2.1.2.2.2.1) then
                    bif (ltI (getI a1.1.1 (0, (0, (0, (0, ())))) a1.2.1.2.2.2.1).2.2.1 a1.2.1.2.2.1) then
                      kR false
                    else
                    bif (inI a1.2.2.1 a1.2.1.2.2.2.1) then
                      bif (ltL (natI a1.2.1.2.2.2.1) a1.2.2.1) then
                        bif (fitI (catL a1.2.2.2.1 [a1.1.2.1]) 8) then
                          rec a1.1.1 (addK .i64 a1.1.2.1 1) (setI a1.2.2.1 (natI a1.2.1.2.2.2.1) a1.2.1.2.2.1) (catL a1.2.2.2.1 [a1.1.2.1])
                        else
                        none
                      else
                      none
                    else
                    none
                  else
                  none
                else
                none
              else
              none
            else
            none) (fun b1 =>
          kR b1.1.1)
    else
    none
  else
  kE 
def lp11_6 : Nat → (List (Int × Int × Int × Int × Unit)) → Int → (List (Int)) → (List (Int)) → Option (pa11_6.den ⊕ pb11_6.den)
  | 0, _, _, _, _ => none
  | n + 1, v0, v1, v2, v3 => st11_6 (lp11_6 n) (some (.inl ((), ()))) (fun r0 => some (.inr ((r0, ()), ()))) v0 v1 v2 v3
def ls11_6 : LoopSum := loopBy k11_6 p11_6 pa11_6 pb11_6 (.exit 0) fun v => lp11_6 fuelN v.1.1 v.1.2.1 v.2.1 v.2.2.1
def fn11 (x0 : List (Int × Int × Int × Int × Unit)) (x1 : Int) : Option (Bool × Unit) :=
  bif (eqI (lenI x0) 0) then
    some (false, ())
  else
  bif (inI x0 0) then
    bif (!(eqI (getI x0 (0, (0, (0, (0, ())))) 0).2.2.2.1 (-1))) then
      some (false, ())
    else
    bif (inI x0 0) then
      bif (!(eqI (getI x0 (0, (0, (0, (0, ())))) 0).2.1 0)) then
        some (false, ())
      else
      bif (inI x0 0) then
        bif (!(eqI (getI x0 (0, (0, (0, (0, ())))) 0).2.2.1 x1)) then
          some (false, ())
        else
        bif (inI x0 0) then
          obind (fn25 (getI x0 (0, (0, (0, (0, ())))) 0)) fun y0 =>
            bif (!y0.1) then
              some (false, ())
            else
            bif ((leI 0 (lenI x0)) && ((leI (lenI x0) (lenI x0)) && (roomC (lenI x0) 8))) then
              obind (lp11_6 fuelN x0 1 (repN (natI (lenI x0)) 0) [0]) fun y1 =>
                osum y1 (fun a2 =>
                  some (true, ())) (fun b2 =>
                  some (b2.1.1, ()))
            else
            none
        else
        none
      else
      none
    else
    none
  else
  none
def sum11 : Sum := (⟨[.list (.pair (.int .i64) (.pair (.int .i64) (.pair (.int .i64) (.pair (.int .i64) .unit)))), .int .i64], [(.bool, false)], fun x => fn11 x.1 x.2.1⟩ : Sum)
noncomputable def env11 : Env := envOf Try.prog tt 11 [(25, sum25)] [(9, k11_9), (6, k11_6)] [(9, ls11_9), (6, ls11_6)]
theorem step11_9 {R : Type} (x : ExecFn R) (xd : Job → St → Option AVal) (n : Nat) (K : Ex → St → Option R) (v0 : List (Int × Int × Int × Int × Unit)) (v1 : Int) (v2 : Int) (v3 : Int) (v4 : Int) (v5 : Int) (v6 : List (Int)) (v7 : List (Int)) :
    iter (some k11_9) (run env11 x xd 11 c11_9) (n + 1) (mkSt p11_9 ((v0, v1, ()), ((v2, v3, v4, v5, ()), v6, v7, ()))) K =
      st11_9 (fun v0 v1 v2 v3 v4 v5 v6 v7 => iter (some k11_9) (run env11 x xd 11 c11_9) n (mkSt p11_9 ((v0, v1, ()), ((v2, v3, v4, v5, ()), v6, v7, ()))) K) (fun e0 e1 e2 e3 e4 e5 e6 e7 => K (.exit 2) (mkSt pa11_9 ((e0, e1, ()), ((e2, e3, e4, e5, ()), e6, e7, ())))) (fun r0 => K .ret (mkSt pb11_9 ((r0, ()), ()))) v0 v1 v2 v3 v4 v5 v6 v7 := by kernel_rfl
theorem it11_9 {R : Type} (x : ExecFn R) (xd : Job → St → Option AVal) (K : Ex → St → Option R) : ∀ (n : Nat) (v0 : List (Int × Int × Int × Int × Unit)) (v1 : Int) (v2 : Int) (v3 : Int) (v4 : Int) (v5 : Int) (v6 : List (Int)) (v7 : List (Int)),
    iter (some k11_9) (run env11 x xd 11 c11_9) n (mkSt p11_9 ((v0, v1, ()), ((v2, v3, v4, v5, ()), v6, v7, ()))) K = obind (lp11_9 n v0 v1 v2 v3 v4 v5 v6 v7) fun o => osum o (fun a => K (.exit 2) (mkSt pa11_9 a)) fun b => K .ret (mkSt pb11_9 b)
  | 0, _, _, _, _, _, _, _, _ => rfl
  | n + 1, v0, v1, v2, v3, v4, v5, v6, v7 => by
    rw [step11_9]
    simp only [it11_9 x xd K n, lp11_9, st11_9, obind_cond, obind_none, obind_some, obind_obind, obind_osum]
    try simp only [osum]
theorem ok11_9 : LoopOk env11 11 c11_9 ls11_9 := loopBy_ok (by kernel_rfl) fun R x xd K v o h => ⟨fuelN, (it11_9 x xd K fuelN (v.1.1) (v.1.2.1) (v.2.1.1) (v.2.1.2.1) (v.2.1.2.2.1) (v.2.1.2.2.2.1) (v.2.2.1) (v.2.2.2.1)).trans (congrArg (fun o => obind o _) h)⟩
theorem step11_6 {R : Type} (x : ExecFn R) (xd : Job → St → Option AVal) (n : Nat) (K : Ex → St → Option R) (v0 : List (Int × Int × Int × Int × Unit)) (v1 : Int) (v2 : List (Int)) (v3 : List (Int)) :
    iter (some k11_6) (run env11 x xd 11 c11_6) (n + 1) (mkSt p11_6 ((v0, v1, ()), (v2, v3, ()))) K =
      st11_6 (fun v0 v1 v2 v3 => iter (some k11_6) (run env11 x xd 11 c11_6) n (mkSt p11_6 ((v0, v1, ()), (v2, v3, ()))) K) (K (.exit 0) (mkSt pa11_6 ((), ()))) (fun r0 => K .ret (mkSt pb11_6 ((r0, ()), ()))) v0 v1 v2 v3 := by kernel_rfl
theorem it11_6 {R : Type} (x : ExecFn R) (xd : Job → St → Option AVal) (K : Ex → St → Option R) : ∀ (n : Nat) (v0 : List (Int × Int × Int × Int × Unit)) (v1 : Int) (v2 : List (Int)) (v3 : List (Int)),
    iter (some k11_6) (run env11 x xd 11 c11_6) n (mkSt p11_6 ((v0, v1, ()), (v2, v3, ()))) K = obind (lp11_6 n v0 v1 v2 v3) fun o => osum o (fun a => K (.exit 0) (mkSt pa11_6 a)) fun b => K .ret (mkSt pb11_6 b)
  | 0, _, _, _, _ => rfl
  | n + 1, v0, v1, v2, v3 => by
    rw [step11_6]
    simp only [it11_6 x xd K n, lp11_6, st11_6, obind_cond, obind_none, obind_some, obind_obind, obind_osum]
    try simp only [osum]
theorem ok11_6 : LoopOk env11 11 c11_6 ls11_6 := loopBy_ok (by kernel_rfl) fun R x xd K v o h => ⟨fuelN, (it11_6 x xd K fuelN (v.1.1) (v.1.2.1) (v.2.1) (v.2.2.1)).trans (congrArg (fun o => obind o _) h)⟩
theorem run11 (x0 : List (Int × Int × Int × Int × Unit)) (x1 : Int) : runF env11 11 [.list (.pair (.int .i64) (.pair (.int .i64) (.pair (.int .i64) (.pair (.int .i64) .unit)))), .int .i64] [(.bool, false)] (x0, x1, ()) = fn11 x0 x1 := by kernel_rfl
theorem lat11 : loopsAt b11 = [c11_9, c11_6] := by kernel_rfl
theorem lok11 : loopsOk env11 11 b11 := loopsOk_at b11 (by rw [lat11]; exact (List.forall_mem_cons.2 ⟨(fun L h => by rw [show env11.lp 11 (firstRegion c11_9) = some ls11_9 by kernel_rfl] at h; cases h; exact ok11_9), (List.forall_mem_cons.2 ⟨(fun L h => by rw [show env11.lp 11 (firstRegion c11_6) = some ls11_6 by kernel_rfl] at h; cases h; exact ok11_6), (fun _ h => absurd h List.not_mem_nil)⟩)⟩))
theorem env11_ok : EnvOk env11 := envOf_ok tok mixed noGor (sg := [(25, sum25)]) (List.forall_mem_cons.2 ⟨(sum25_ok), (fun _ h => absurd h List.not_mem_nil)⟩) (fn := Try.f11) (c := b11) (by kernel_rfl) (by kernel_rfl) lok11
theorem sum11_ok : SumOk Try.prog 11 sum11 := sum_of_run env11_ok (by decide) fun x y h => (run11 (x.1) (x.2.1)).trans h

/-! ### quillwort/quillwortref11.Above -/
noncomputable def b18 : Code := (Try.f18.body).getD .skip
noncomputable def c18_1 : Code := cA (cA (cA (cB (b18))))
def k18_1 : Keep := ⟨[0, 1, 2, 100001], [], [], [], [6], []⟩
def p18_1 : SP := ⟨us [.v (.list (.pair (.int .i64) (.pair (.int .i64) (.pair (.int .i64) (.pair (.int .i64) .unit))))), .v (.int .i64), .v (.int .i64)] 14, []⟩
def pa18_1 : SP := ⟨us [] 17, []⟩
def pb18_1 : SP := ⟨us [.u, .u, .u, .u, .u, .u, .v .bool] 10, []⟩
def st18_1 {γ : Type} (rec : (List (Int × Int × Int × Int × Unit)) → Int → Int → Option γ) (kE : Option γ) (kR : Bool → Option γ) (v0 : List (Int × Int × Int × Int × Unit)) (v1 : Int) (v2 : Int) : Option γ :=
  bif (leI 0 v2) then
    bif (eqI v1 v2) then
      kR true
    else
    bif (inI v0 v2) then
      rec v0 v1 (getI v0 (0, (0, (0, (0, ())))) v2).2.2.2.1
    else
    none
  else
  kE 
def lp18_1 : Nat → (List (Int × Int × Int × Int × Unit)) → Int → Int → Option (pa18_1.den ⊕ pb18_1.den)
  | 0, _, _, _ => none
  | n + 1, v0, v1, v2 => st18_1 (lp18_1 n) (some (.inl ((), ()))) (fun r0 => some (.inr ((r0, ()), ()))) v0 v1 v2
def ls18_1 : LoopSum := loopBy k18_1 p18_1 pa18_1 pb18_1 (.exit 0) fun v => lp18_1 fuelN v.1.1 v.1.2.1 v.1.2.2.1
def fn18 (x0 : List (Int × Int × Int × Int × Unit)) (x1 : Int) (x2 : Int) : Option (Bool × Unit) :=
  obind (lp18_1 fuelN x0 x1 x2) fun y0 =>
    osum y0 (fun a1 =>
      some (false, ())) (fun b1 =>
      some (b1.1.1, ()))
def sum18 : Sum := (⟨[.list (.pair (.int .i64) (.pair (.int .i64) (.pair (.int .i64) (.pair (.int .i64) .unit)))), .int .i64, .int .i64], [(.bool, false)], fun x => fn18 x.1 x.2.1 x.2.2.1⟩ : Sum)
noncomputable def env18 : Env := envOf Try.prog tt 18 [] [(1, k18_1)] [(1, ls18_1)]
theorem step18_1 {R : Type} (x : ExecFn R) (xd : Job → St → Option AVal) (n : Nat) (K : Ex → St → Option R) (v0 : List (Int × Int × Int × Int × Unit)) (v1 : Int) (v2 : Int) :
    iter (some k18_1) (run env18 x xd 18 c18_1) (n + 1) (mkSt p18_1 ((v0, v1, v2, ()), ())) K =
      st18_1 (fun v0 v1 v2 => iter (some k18_1) (run env18 x xd 18 c18_1) n (mkSt p18_1 ((v0, v1, v2, ()), ())) K) (K (.exit 0) (mkSt pa18_1 ((), ()))) (fun r0 => K .ret (mkSt pb18_1 ((r0, ()), ()))) v0 v1 v2 := by kernel_rfl
theorem it18_1 {R : Type} (x : ExecFn R) (xd : Job → St → Option AVal) (K : Ex → St → Option R) : ∀ (n : Nat) (v0 : List (Int × Int × Int × Int × Unit)) (v1 : Int) (v2 : Int),
    iter (some k18_1) (run env18 x xd 18 c18_1) n (mkSt p18_1 ((v0, v1, v2, ()), ())) K = obind (lp18_1 n v0 v1 v2) fun o => osum o (fun a => K (.exit 0) (mkSt pa18_1 a)) fun b => K .ret (mkSt pb18_1 b)
  | 0, _, _, _ => rfl
  | n + 1, v0, v1, v2 => by
    rw [step18_1]
    simp only [it18_1 x xd K n, lp18_1, st18_1, obind_cond, obind_none, obind_some, obind_obind, obind_osum]
    try simp only [osum]
theorem ok18_1 : LoopOk env18 18 c18_1 ls18_1 := loopBy_ok (by kernel_rfl) fun R x xd K v o h => ⟨fuelN, (it18_1 x xd K fuelN (v.1.1) (v.1.2.1) (v.1.2.2.1)).trans (congrArg (fun o => obind o _) h)⟩
theorem run18 (x0 : List (Int × Int × Int × Int × Unit)) (x1 : Int) (x2 : Int) : runF env18 18 [.list (.pair (.int .i64) (.pair (.int .i64) (.pair (.int .i64) (.pair (.int .i64) .unit)))), .int .i64, .int .i64] [(.bool, false)] (x0, x1, x2, ()) = fn18 x0 x1 x2 := by kernel_rfl
theorem lat18 : loopsAt b18 = [c18_1] := by kernel_rfl
theorem lok18 : loopsOk env18 18 b18 := loopsOk_at b18 (by rw [lat18]; exact (List.forall_mem_cons.2 ⟨(fun L h => by rw [show env18.lp 18 (firstRegion c18_1) = some ls18_1 by kernel_rfl] at h; cases h; exact ok18_1), (fun _ h => absurd h List.not_mem_nil)⟩))
theorem env18_ok : EnvOk env18 := envOf_ok tok mixed noGor (sg := []) (fun _ h => absurd h List.not_mem_nil) (fn := Try.f18) (c := b18) (by kernel_rfl) (by kernel_rfl) lok18
theorem sum18_ok : SumOk Try.prog 18 sum18 := sum_of_run env18_ok (by decide) fun x y h => (run18 (x.1) (x.2.1) (x.2.2.1)).trans h

/-! ### quillwort/quillwortref11.Right -/
noncomputable def b12 : Code := (Try.f12.body).getD .skip
noncomputable def c12_13 : Code := cA (cA (cB (cB (cB (cB (cB (cA (cA (cB (cA (cA (cB (cA (cB (cB (b12))))))))))))))))
noncomputable def c12_4 : Code := cA (cA (cB (cA (cB (cB (b12))))))
def k12_13 : Keep := ⟨[0, 5, 6, 7, 100013], [], [0, 5], [], [4], []⟩
def k12_4 : Keep := ⟨[0, 5, 100004], [], [], [], [4], []⟩
def p12_13 : SP := ⟨us [.v (.list (.pair (.int .i64) (.pair (.int .i64) (.pair (.int .i64) (.pair (.int .i64) .unit))))), .u, .u, .u, .u, .v (.int .i64), .v (.int .i64), .v (.int .i64)] 131, []⟩
def pa12_13 : SP := ⟨us [.v (.list (.pair (.int .i64) (.pair (.int .i64) (.pair (.int .i64) (.pair (.int .i64) .unit))))), .u, .u, .u, .u, .v (.int .i64)] 133, []⟩
def pb12_13 : SP := ⟨us [.u, .u, .u, .u, .v .bool] 134, []⟩
def st12_13 {γ : Type} (rec : (List (Int × Int × Int × Int × Unit)) → Int → Int → Int → Option γ) (kE : (List (Int × Int × Int × Int × Unit)) → Int → Option γ) (kR : Bool → Option γ) (v0 : List (Int × Int × Int × Int × Unit)) (v1 : Int) (v2 : Int) (v3 : Int) : Option γ :=
  bif (ltI v3 v1) then
    bif (inI v0 v3) then
      bif (eqI (getI v0 (0, (0, (0, (0, ())))) v3).2.2.2.1 v2) then
        bif (inI v0 v3) then
          bif (inI v0 v1) then
            bif (ltI (getI v0 (0, (0, (0, (0, ())))) v1).2.1 (getI v0 (0, (0, (0, (0, ())))) v3).2.2.1) then
              kR false
            else
            rec v0 v1 v2 (addK .i64 v3 1)
          else
          none
        else
        none
      else
      rec v0 v1 v2 (addK .i64 v3 1)
    else
    none
  else
  kE v0 v1
def lp12_13 : Nat → (List (Int × Int × Int × Int × Unit)) → Int → Int → Int → Option (pa12_13.den ⊕ pb12_13.den)
  | 0, _, _, _, _ => none
  | n + 1, v0, v1, v2, v3 => st12_13 (lp12_13 n) (fun e0 e1 => some (.inl ((e0, e1, ()), ()))) (fun r0 => some (.inr ((r0, ()), ()))) v0 v1 v2 v3
def ls12_13 : LoopSum := loopBy k12_13 p12_13 pa12_13 pb12_13 (.exit 2) fun v => lp12_13 fuelN v.1.1 v.1.2.1 v.1.2.2.1 v.1.2.2.2.1
def p12_4 : SP := ⟨us [.v (.list (.pair (.int .i64) (.pair (.int .i64) (.pair (.int .i64) (.pair (.int .i64) .unit))))), .u, .u, .u, .u, .v (.int .i64)] 133, []⟩
def pa12_4 : SP := ⟨us [] 139, []⟩
def pb12_4 : SP := ⟨us [.u, .u, .u, .u, .v .bool] 134, []⟩
def st12_4 {γ : Type} (rec : (List (Int × Int × Int × Int × Unit)) → Int → Option γ) (kE : Option γ) (kR : Bool → Option γ) (v0 : List (Int × Int × Int × Int × Unit)) (v1 : Int) : Option γ :=
  bif (ltI v1 (lenI v0)) then
    bif (inI v0 v1) then
      bif (ltI (getI v0 (0, (0, (0, (0, ())))) v1).1 1) then
        kR false
      else
      bif (inI v0 v1) then
        bif (ltI 18 (getI v0 (0, (0, (0, (0, ())))) v1).1) then
          kR false
        else
        bif (inI v0 v1) then
          bif (inI v0 v1) then
            bif (ltI (getI v0 (0, (0, (0, (0, ())))) v1).2.2.1 (getI v0 (0, (0, (0, (0, ())))) v1).2.1) then
              kR false
            else
            bif (eqI v1 0) then
              rec v0 (addK .i64 v1 1)
            else
            bif (inI v0 v1) then
              bif (ltI (getI v0 (0, (0, (0, (0, ())))) v1).2.2.2.1 0) then
                kR false
              else
              bif (leI v1 (getI v0 (0, (0, (0, (0, ())))) v1).2.2.2.1) then
                kR false
              else
              obind (fn18 v0 (getI v0 (0, (0, (0, (0, ())))) v1).2.2.2.1 (subK .i64 v1 1)) fun y0 =>
                bif (!y0.1) then
                  kR false
                else
                bif (inI v0 v1) then
                  bif (inI v0 (getI v0 (0, (0, (0, (0, ())))) v1).2.2.2.1) then
                    bif (ltI (getI v0 (0, (0, (0, (0, ())))) v1).2.1 (getI v0 (0, (0, (0, (0, ())))) (getI v0 (0, (0, (0, (0, ())))) v1).2.2.2.1).2.1) then
                      kR false
                    else
                    bif (inI v0 v1) then
                      bif (inI v0 (getI v0 (0, (0, (0, (0, ())))) v1).2.2.2.1) then
                        bif (ltI (getI v0 (0, (0, (0, (0, ())))) (getI v0 (0, (0, (0, (0, ())))) v1).2.2.2.1).2.2.1 (getI v0 (0, (0, (0, (0, ())))) v1).2.2.1) then
                          kR false
                        else
                        obind (lp12_13 fuelN v0 v1 (getI v0 (0, (0, (0, (0, ())))) v1).2.2.2.1 1) fun y1 =>
                          osum y1 (fun a2 =>
                            rec a2.1.1 (addK .i64 a2.1.2.1 1)) (fun b2 =>
                            kR b2.1.1)
                      else
                      none
                    else
                    none
                  else
                  none
                else
                none
            else
            none
          else
          none
        else
        none
      else
      none
    else
    none
  else
  kE 
def lp12_4 : Nat → (List (Int × Int × Int × Int × Unit)) → Int → Option (pa12_4.den ⊕ pb12_4.den)
  | 0, _, _ => none
  | n + 1, v0, v1 => st12_4 (lp12_4 n) (some (.inl ((), ()))) (fun r0 => some (.inr ((r0, ()), ()))) v0 v1
def ls12_4 : LoopSum := loopBy k12_4 p12_4 pa12_4 pb12_4 (.exit 0) fun v => lp12_4 fuelN v.1.1 v.1.2.1
def fn12 (x0 : List (Int × Int × Int × Int × Unit)) (x1 : Int) : Option (Bool × Unit) :=
  bif (eqI (lenI x0) 0) then
    some (false, ())
  else
  bif (inI x0 0) then
    bif (!(eqI (getI x0 (0, (0, (0, (0, ())))) 0).2.2.2.1 (-1))) then
      some (false, ())
    else
    bif (inI x0 0) then
      bif (!(eqI (getI x0 (0, (0, (0, (0, ())))) 0).2.1 0)) then
        some (false, ())
      else
      bif (inI x0 0) then
        bif (!(eqI (getI x0 (0, (0, (0, (0, ())))) 0).2.2.1 x1)) then
          some (false, ())
        else
        obind (lp12_4 fuelN x0 0) fun y0 =>
          osum y0 (fun a1 =>
            some (true, ())) (fun b1 =>
            some (b1.1.1, ()))
      else
      none
    else
    none
  else
  none
def sum12 : Sum := (⟨[.list (.pair (.int .i64) (.pair (.int .i64) (.pair (.int .i64) (.pair (.int .i64) .unit)))), .int .i64], [(.bool, false)], fun x => fn12 x.1 x.2.1⟩ : Sum)
noncomputable def env12 : Env := envOf Try.prog tt 12 [(18, sum18)] [(13, k12_13), (4, k12_4)] [(13, ls12_13), (4, ls12_4)]
theorem step12_13 {R : Type} (x : ExecFn R) (xd : Job → St → Option AVal) (n : Nat) (K : Ex → St → Option R) (v0 : List (Int × Int × Int × Int × Unit)) (v1 : Int) (v2 : Int) (v3 : Int) :
    iter (some k12_13) (run env12 x xd 12 c12_13) (n + 1) (mkSt p12_13 ((v0, v1, v2, v3, ()), ())) K =
      st12_13 (fun v0 v1 v2 v3 => iter (some k12_13) (run env12 x xd 12 c12_13) n (mkSt p12_13 ((v0, v1, v2, v3, ()), ())) K) (fun e0 e1 => K (.exit 2) (mkSt pa12_13 ((e0, e1, ()), ()))) (fun r0 => K .ret (mkSt pb12_13 ((r0, ()), ()))) v0 v1 v2 v3 := by kernel_rfl
theorem it12_13 {R : Type} (x : ExecFn R) (xd : Job → St → Option AVal) (K : Ex → St → Option R) : ∀ (n : Nat) (v0 : List (Int × Int × Int × Int × Unit)) (v1 : Int) (v2 : Int) (v3 : Int),
    iter (some k12_13) (run env12 x xd 12 c12_13) n (mkSt p12_13 ((v0, v1, v2, v3, ()), ())) K = obind (lp12_13 n v0 v1 v2 v3) fun o => osum o (fun a => K (.exit 2) (mkSt pa12_13 a)) fun b => K .ret (mkSt pb12_13 b)
  | 0, _, _, _, _ => rfl
  | n + 1, v0, v1, v2, v3 => by
    rw [step12_13]
    simp only [it12_13 x xd K n, lp12_13, st12_13, obind_cond, obind_none, obind_some, obind_obind, obind_osum]
    try simp only [osum]
theorem ok12_13 : LoopOk env12 12 c12_13 ls12_13 := loopBy_ok (by kernel_rfl) fun R x xd K v o h => ⟨fuelN, (it12_13 x xd K fuelN (v.1.1) (v.1.2.1) (v.1.2.2.1) (v.1.2.2.2.1)).trans (congrArg (fun o => obind o _) h)⟩
theorem step12_4 {R : Type} (x : ExecFn R) (xd : Job → St → Option AVal) (n : Nat) (K : Ex → St → Option R) (v0 : List (Int × Int × Int × Int × Unit)) (v1 : Int) :
    iter (some k12_4) (run env12 x xd 12 c12_4) (n + 1) (mkSt p12_4 ((v0, v1, ()), ())) K =
      st12_4 (fun v0 v1 => iter (some k12_4) (run env12 x xd 12 c12_4) n (mkSt p12_4 ((v0, v1, ()), ())) K) (K (.exit 0) (mkSt pa12_4 ((), ()))) (fun r0 => K .ret (mkSt pb12_4 ((r0, ()), ()))) v0 v1 := by kernel_rfl
theorem it12_4 {R : Type} (x : ExecFn R) (xd : Job → St → Option AVal) (K : Ex → St → Option R) : ∀ (n : Nat) (v0 : List (Int × Int × Int × Int × Unit)) (v1 : Int),
    iter (some k12_4) (run env12 x xd 12 c12_4) n (mkSt p12_4 ((v0, v1, ()), ())) K = obind (lp12_4 n v0 v1) fun o => osum o (fun a => K (.exit 0) (mkSt pa12_4 a)) fun b => K .ret (mkSt pb12_4 b)
  | 0, _, _ => rfl
  | n + 1, v0, v1 => by
    rw [step12_4]
    simp only [it12_4 x xd K n, lp12_4, st12_4, obind_cond, obind_none, obind_some, obind_obind, obind_osum]
    try simp only [osum]
theorem ok12_4 : LoopOk env12 12 c12_4 ls12_4 := loopBy_ok (by kernel_rfl) fun R x xd K v o h => ⟨fuelN, (it12_4 x xd K fuelN (v.1.1) (v.1.2.1)).trans (congrArg (fun o => obind o _) h)⟩
theorem run12 (x0 : List (Int × Int × Int × Int × Unit)) (x1 : Int) : runF env12 12 [.list (.pair (.int .i64) (.pair (.int .i64) (.pair (.int .i64) (.pair (.int .i64) .unit)))), .int .i64] [(.bool, false)] (x0, x1, ()) = fn12 x0 x1 := by kernel_rfl
theorem lat12 : loopsAt b12 = [c12_13, c12_4] := by kernel_rfl
theorem lok12 : loopsOk env12 12 b12 := loopsOk_at b12 (by rw [lat12]; exact (List.forall_mem_cons.2 ⟨(fun L h => by rw [show env12.lp 12 (firstRegion c12_13) = some ls12_13 by kernel_rfl] at h; cases h; exact ok12_13), (List.forall_mem_cons.2 ⟨(fun L h => by rw [show env12.lp 12 (firstRegion c12_4) = some ls12_4 by kernel_rfl] at h; cases h; exact ok12_4), (fun _ h => absurd h List.not_mem_nil)⟩)⟩))
theorem env12_ok : EnvOk env12 := envOf_ok tok mixed noGor (sg := [(18, sum18)]) (List.forall_mem_cons.2 ⟨(sum18_ok), (fun _ h => absurd h List.not_mem_nil)⟩) (fn := Try.f12) (c := b12) (by kernel_rfl) (by kernel_rfl) lok12
theorem sum12_ok : SumOk Try.prog 12 sum12 := sum_of_run env12_ok (by decide) fun x y h => (run12 (x.1) (x.2.1)).trans h

/-! ### quillwort/quillwortlaw11.TreeChecks -/
def fn3 (x0 : List (Int × Int × Int × Int × Unit)) (x1 : Int) : Option (Bool × Unit) :=
  bif (ltI 40 (lenI x0)) then
    some (true, ())
  else
  obind (fn11 x0 x1) fun y0 =>
    obind (fn12 x0 x1) fun y1 =>
      some ((eqB y0.1 y1.1), ())
def sum3 : Sum := (⟨[.list (.pair (.int .i64) (.pair (.int .i64) (.pair (.int .i64) (.pair (.int .i64) .unit)))), .int .i64], [(.bool, false)], fun x => fn3 x.1 x.2.1⟩ : Sum)
noncomputable def env3 : Env := envOf Try.prog tt 3 [(10, sumAwake), (11, sum11), (12, sum12)] [] []
theorem run3 (x0 : List (Int × Int × Int × Int × Unit)) (x1 : Int) : runF env3 3 [.list (.pair (.int .i64) (.pair (.int .i64) (.pair (.int .i64) (.pair (.int .i64) .unit)))), .int .i64] [(.bool, false)] (x0, x1, ()) = fn3 x0 x1 := by kernel_rfl
theorem env3_ok : EnvOk env3 := envOf_ok tok mixed noGor (sg := [(10, sumAwake), (11, sum11), (12, sum12)]) (List.forall_mem_cons.2 ⟨(sumAwake_ok), (List.forall_mem_cons.2 ⟨(sum11_ok), (List.forall_mem_cons.2 ⟨(sum12_ok), (fun _ h => absurd h List.not_mem_nil)⟩)⟩)⟩) (fn := Try.f3) (c := (Try.f3.body).getD .skip) (by kernel_rfl) (by kernel_rfl) (loopsOk_none (fun _ => rfl) _)
theorem sum3_ok : SumOk Try.prog 3 sum3 := sum_of_run env3_ok (by decide) fun x y h => (run3 (x.1) (x.2.1)).trans h

end Go.Proofs.Ytfeklnaeolangaa
