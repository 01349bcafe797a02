/-
  The plain functions of some functions of the program, and that they are computed.
-/
import Derived.Test.YtkloefipjbeneaaFa
namespace Go.Proofs.Ytkloefipjbeneaa
open Go.RowKit
set_option linter.unusedVariables false
set_option linter.unusedSimpArgs false
set_option maxRecDepth 100000

/-! ### quillwort/quillwortref12.Row -/
noncomputable def b32 : Code := (Try.f32.body).getD .skip
noncomputable def c32_7 : Code := cA (cA (cA (cA (cB (cA (cA (cB (cA (cA (cB (cA (cB (cB (cB (b32)))))))))))))))
noncomputable def c32_4 : Code := cA (cA (cB (cA (cB (cB (cB (b32)))))))
noncomputable def c32_12 : Code := cA (cA (cA (cB (cB (cB (cB (b32)))))))
def k32_7 : Keep := ⟨[0, 1, 2, 7, 8, 9, 100007], [], [0, 1, 2, 7, 9], [], [6], []⟩
def k32_4 : Keep := ⟨[0, 1, 2, 7, 8, 9, 100004], [], [0, 1, 2, 7, 8], [], [6], []⟩
def k32_12 : Keep := ⟨[0, 1, 2, 7, 8, 100012], [], [7], [], [6], []⟩
def p32_7 : SP := ⟨us [.v (.list (.pair (.int .i64) (.pair .str (.pair (.int .i64) (.pair (.int .i64) .unit))))), .v (.list (.pair (.int .i64) (.pair (.int .i64) (.pair (.int .i64) (.pair (.int .i64) .unit))))), .v (.int .i64), .u, .u, .u, .u, .v .str, .v (.int .i64), .v (.int .i64)] 72, []⟩
def pa32_7 : SP := ⟨us [.v (.list (.pair (.int .i64) (.pair .str (.pair (.int .i64) (.pair (.int .i64) .unit))))), .v (.list (.pair (.int .i64) (.pair (.int .i64) (.pair (.int .i64) (.pair (.int .i64) .unit))))), .v (.int .i64), .u, .u, .u, .u, .v .str, .u, .v (.int .i64)] 72, []⟩
def pb32_7 : SP := ⟨us [.u, .u, .u, .u, .u, .u, .v .str] 75, []⟩
def st32_7 {γ : Type} (rec : (List (Int × (List UInt8) × (Int × Int × Unit))) → (List (Int × Int × Int × Int × Unit)) → Int → (List UInt8) → Int → Int → Option γ) (kE : (List (Int × (List UInt8) × (Int × Int × Unit))) → (List (Int × Int × Int × Int × Unit)) → Int → (List UInt8) → Int → Option γ) (kR : (List UInt8) → Option γ) (v0 : List (Int × (List UInt8) × (Int × Int × Unit))) (v1 : List (Int × Int × Int × Int × Unit)) (v2 : Int) (v3 : List UInt8) (v4 : Int) (v5 : Int) : Option γ :=
  bif (inI v1 v5) then
    bif (ltI v4 (getI v1 (0, (0, (0, (0, ())))) v5).2.1) then
      bif (inI v0 v4) then
        obind (fn11 (getI v0 (0, ([], (0, (0, ())))) v4)) fun y0 =>
          bif (roomS v3 y0.1) then
            rec v0 v1 v2 (catL v3 y0.1) (addK .i64 v4 1) v5
          else
          none
      else
      none
    else
    kE v0 v1 v2 v3 v5
  else
  none
def lp32_7 : Nat → (List (Int × (List UInt8) × (Int × Int × Unit))) → (List (Int × Int × Int × Int × Unit)) → Int → (List UInt8) → Int → Int → Option (pa32_7.den ⊕ pb32_7.den)
  | 0, _, _, _, _, _, _ => none
  | n + 1, v0, v1, v2, v3, v4, v5 => st32_7 (lp32_7 n) (fun e0 e1 e2 e3 e4 => some (.inl ((e0, e1, e2, e3, e4, ()), ()))) (fun r0 => some (.inr ((r0, ()), ()))) v0 v1 v2 v3 v4 v5
noncomputable def ls32_7 : LoopSum := loopBy k32_7 p32_7 pa32_7 pb32_7 (.exit 2) (fun v => lp32_7 fuelN v.1.1 v.1.2.1 v.1.2.2.1 v.1.2.2.2.1 v.1.2.2.2.2.1 v.1.2.2.2.2.2.1) 6
def p32_4 : SP := ⟨us [.v (.list (.pair (.int .i64) (.pair .str (.pair (.int .i64) (.pair (.int .i64) .unit))))), .v (.list (.pair (.int .i64) (.pair (.int .i64) (.pair (.int .i64) (.pair (.int .i64) .unit))))), .v (.int .i64), .u, .u, .u, .u, .v .str, .v (.int .i64), .v (.int .i64)] 72, []⟩
def pa32_4 : SP := ⟨us [.v (.list (.pair (.int .i64) (.pair .str (.pair (.int .i64) (.pair (.int .i64) .unit))))), .v (.list (.pair (.int .i64) (.pair (.int .i64) (.pair (.int .i64) (.pair (.int .i64) .unit))))), .v (.int .i64), .u, .u, .u, .u, .v .str, .v (.int .i64)] 73, []⟩
def pb32_4 : SP := ⟨us [.u, .u, .u, .u, .u, .u, .v .str] 75, []⟩
def st32_4 {γ : Type} (rec : (List (Int × (List UInt8) × (Int × Int × Unit))) → (List (Int × Int × Int × Int × Unit)) → Int → (List UInt8) → Int → Int → Option γ) (kE : (List (Int × (List UInt8) × (Int × Int × Unit))) → (List (Int × Int × Int × Int × Unit)) → Int → (List UInt8) → Int → Option γ) (kR : (List UInt8) → Option γ) (v0 : List (Int × (List UInt8) × (Int × Int × Unit))) (v1 : List (Int × Int × Int × Int × Unit)) (v2 : Int) (v3 : List UInt8) (v4 : Int) (v5 : Int) : Option γ :=
  bif (ltI v5 (lenI v1)) then
    bif (inI v1 v5) then
      bif (eqI (getI v1 (0, (0, (0, (0, ())))) v5).2.2.2.1 v2) then
        obind (lp32_7 fuelN v0 v1 v2 v3 v4 v5) fun y0 =>
          osum y0 (fun a1 =>
            bif (inI a1.1.2.1 a1.1.2.2.2.2.1) then
              bif (inI a1.1.2.1 a1.1.2.2.2.2.1) then
                bif (partI (lenI [63, 80, 76, 65, 73, 83, 88, 87, 82, 66, 85, 70, 72, 79, 67, 84, 78, 69, 77]) (getI a1.1.2.1 (0, (0, (0, (0, ())))) a1.1.2.2.2.2.1).1 (addK .i64 (getI a1.1.2.1 (0, (0, (0, (0, ())))) a1.1.2.2.2.2.1).1 1)) then
                  bif (roomS a1.1.2.2.2.1 (sub [63, 80, 76, 65, 73, 83, 88, 87, 82, 66, 85, 70, 72, 79, 67, 84, 78, 69, 77] (getI a1.1.2.1 (0, (0, (0, (0, ())))) a1.1.2.2.2.2.1).1 (addK .i64 (getI a1.1.2.1 (0, (0, (0, (0, ())))) a1.1.2.2.2.2.1).1 1))) then
                    bif (inI a1.1.2.1 a1.1.2.2.2.2.1) then
                      rec a1.1.1 a1.1.2.1 a1.1.2.2.1 (catL a1.1.2.2.2.1 (sub [63, 80, 76, 65, 73, 83, 88, 87, 82, 66, 85, 70, 72, 79, 67, 84, 78, 69, 77] (getI a1.1.2.1 (0, (0, (0, (0, ())))) a1.1.2.2.2.2.1).1 (addK .i64 (getI a1.1.2.1 (0, (0, (0, (0, ())))) a1.1.2.2.2.2.1).1 1))) (getI a1.1.2.1 (0, (0, (0, (0, ())))) a1.1.2.2.2.2.1).2.2.1 (addK .i64 a1.1.2.2.2.2.1 1)
                    else
                    none
                  else
                  none
                else
                none
              else
              none
            else
            none) (fun b1 =>
            kR b1.1.1)
      else
      rec v0 v1 v2 v3 v4 (addK .i64 v5 1)
    else
    none
  else
  kE v0 v1 v2 v3 v4
def lp32_4 : Nat → (List (Int × (List UInt8) × (Int × Int × Unit))) → (List (Int × Int × Int × Int × Unit)) → Int → (List UInt8) → Int → Int → Option (pa32_4.den ⊕ pb32_4.den)
  | 0, _, _, _, _, _, _ => none
  | n + 1, v0, v1, v2, v3, v4, v5 => st32_4 (lp32_4 n) (fun e0 e1 e2 e3 e4 => some (.inl ((e0, e1, e2, e3, e4, ()), ()))) (fun r0 => some (.inr ((r0, ()), ()))) v0 v1 v2 v3 v4 v5
noncomputable def ls32_4 : LoopSum := loopBy k32_4 p32_4 pa32_4 pb32_4 (.exit 0) (fun v => lp32_4 fuelN v.1.1 v.1.2.1 v.1.2.2.1 v.1.2.2.2.1 v.1.2.2.2.2.1 v.1.2.2.2.2.2.1) 12
def p32_12 : SP := ⟨us [.v (.list (.pair (.int .i64) (.pair .str (.pair (.int .i64) (.pair (.int .i64) .unit))))), .v (.list (.pair (.int .i64) (.pair (.int .i64) (.pair (.int .i64) (.pair (.int .i64) .unit))))), .v (.int .i64), .u, .u, .u, .u, .v .str, .v (.int .i64)] 73, []⟩
def pa32_12 : SP := ⟨us [.u, .u, .u, .u, .u, .u, .u, .v .str] 74, []⟩
def pb32_12 : SP := ⟨us [.u, .u, .u, .u, .u, .u, .v .str] 75, []⟩
def st32_12 {γ : Type} (rec : (List (Int × (List UInt8) × (Int × Int × Unit))) → (List (Int × Int × Int × Int × Unit)) → Int → (List UInt8) → Int → Option γ) (kE : (List UInt8) → Option γ) (kR : (List UInt8) → Option γ) (v0 : List (Int × (List UInt8) × (Int × Int × Unit))) (v1 : List (Int × Int × Int × Int × Unit)) (v2 : Int) (v3 : List UInt8) (v4 : Int) : Option γ :=
  bif (inI v1 v2) then
    bif (ltI v4 (getI v1 (0, (0, (0, (0, ())))) v2).2.2.1) then
      bif (inI v0 v4) then
        obind (fn11 (getI v0 (0, ([], (0, (0, ())))) v4)) fun y0 =>
          bif (roomS v3 y0.1) then
            rec v0 v1 v2 (catL v3 y0.1) (addK .i64 v4 1)
          else
          none
      else
      none
    else
    kE v3
  else
  none
def lp32_12 : Nat → (List (Int × (List UInt8) × (Int × Int × Unit))) → (List (Int × Int × Int × Int × Unit)) → Int → (List UInt8) → Int → Option (pa32_12.den ⊕ pb32_12.den)
  | 0, _, _, _, _, _ => none
  | n + 1, v0, v1, v2, v3, v4 => st32_12 (lp32_12 n) (fun e0 => some (.inl ((e0, ()), ()))) (fun r0 => some (.inr ((r0, ()), ()))) v0 v1 v2 v3 v4
noncomputable def ls32_12 : LoopSum := loopBy k32_12 p32_12 pa32_12 pb32_12 (.exit 4) (fun v => lp32_12 fuelN v.1.1 v.1.2.1 v.1.2.2.1 v.1.2.2.2.1 v.1.2.2.2.2.1) 18
def fn32 (x0 : List (Int × (List UInt8) × (Int × Int × Unit))) (x1 : List (Int × Int × Int × Int × Unit)) (x2 : Int) : Option ((List UInt8) × Unit) :=
  bif (inI x1 x2) then
    obind (lp32_4 fuelN x0 x1 x2 [] (getI x1 (0, (0, (0, (0, ())))) x2).2.1 (addK .i64 x2 1)) fun y0 =>
      osum y0 (fun a1 =>
        obind (lp32_12 fuelN a1.1.1 a1.1.2.1 a1.1.2.2.1 a1.1.2.2.2.1 a1.1.2.2.2.2.1) fun y2 =>
          osum y2 (fun a3 =>
            some (a3.1.1, ())) (fun b3 =>
            some (b3.1.1, ()))) (fun b1 =>
        some (b1.1.1, ()))
  else
  none
def sum32 : Sum := (⟨[.list (.pair (.int .i64) (.pair .str (.pair (.int .i64) (.pair (.int .i64) .unit)))), .list (.pair (.int .i64) (.pair (.int .i64) (.pair (.int .i64) (.pair (.int .i64) .unit)))), .int .i64], [(.str, false)], fun x => fn32 x.1 x.2.1 x.2.2.1⟩ : Sum)
noncomputable def env32 : Env := envOf Try.prog tt 32 [(11, sum11)] [(7, k32_7), (4, k32_4), (12, k32_12)] [(7, ls32_7), (4, ls32_4), (12, ls32_12)]
theorem step32_7 {R : Type} (d : Nat) (n : Nat) (K : Ex → St → Option R) (v0 : List (Int × (List UInt8) × (Int × Int × Unit))) (v1 : List (Int × Int × Int × Int × Unit)) (v2 : Int) (v3 : List UInt8) (v4 : Int) (v5 : Int) :
    iter (some k32_7) (runD env32 (d + 6) 32 c32_7) (n + 1) (mkSt p32_7 ((v0, v1, v2, v3, v4, v5, ()), ())) K =
      st32_7 (fun v0 v1 v2 v3 v4 v5 => iter (some k32_7) (runD env32 (d + 6) 32 c32_7) n (mkSt p32_7 ((v0, v1, v2, v3, v4, v5, ()), ())) K) (fun e0 e1 e2 e3 e4 => K (.exit 2) (mkSt pa32_7 ((e0, e1, e2, e3, e4, ()), ()))) (fun r0 => K .ret (mkSt pb32_7 ((r0, ()), ()))) v0 v1 v2 v3 v4 v5 := by kernel_rfl
theorem it32_7 {R : Type} (d : Nat) (K : Ex → St → Option R) : ∀ (n : Nat) (v0 : List (Int × (List UInt8) × (Int × Int × Unit))) (v1 : List (Int × Int × Int × Int × Unit)) (v2 : Int) (v3 : List UInt8) (v4 : Int) (v5 : Int),
    iter (some k32_7) (runD env32 (d + 6) 32 c32_7) n (mkSt p32_7 ((v0, v1, v2, v3, v4, v5, ()), ())) K = obind (lp32_7 n v0 v1 v2 v3 v4 v5) fun o => osum o (fun a => K (.exit 2) (mkSt pa32_7 a)) fun b => K .ret (mkSt pb32_7 b)
  | 0, _, _, _, _, _, _ => rfl
  | n + 1, v0, v1, v2, v3, v4, v5 => by
    rw [step32_7]
    simp only [it32_7 d K n, lp32_7, st32_7, obind_cond, obind_none, obind_some, obind_obind, obind_osum]
    try simp only [osum]
theorem ok32_7 : LoopOk env32 32 c32_7 ls32_7 := loopBy_ok (by kernel_rfl) fun R d K v o h => ⟨fuelN, (it32_7 d K fuelN (v.1.1) (v.1.2.1) (v.1.2.2.1) (v.1.2.2.2.1) (v.1.2.2.2.2.1) (v.1.2.2.2.2.2.1)).trans (congrArg (fun o => obind o _) h)⟩
theorem step32_4 {R : Type} (d : Nat) (n : Nat) (K : Ex → St → Option R) (v0 : List (Int × (List UInt8) × (Int × Int × Unit))) (v1 : List (Int × Int × Int × Int × Unit)) (v2 : Int) (v3 : List UInt8) (v4 : Int) (v5 : Int) :
    iter (some k32_4) (runD env32 (d + 12) 32 c32_4) (n + 1) (mkSt p32_4 ((v0, v1, v2, v3, v4, v5, ()), ())) K =
      st32_4 (fun v0 v1 v2 v3 v4 v5 => iter (some k32_4) (runD env32 (d + 12) 32 c32_4) n (mkSt p32_4 ((v0, v1, v2, v3, v4, v5, ()), ())) K) (fun e0 e1 e2 e3 e4 => K (.exit 0) (mkSt pa32_4 ((e0, e1, e2, e3, e4, ()), ()))) (fun r0 => K .ret (mkSt pb32_4 ((r0, ()), ()))) v0 v1 v2 v3 v4 v5 := by kernel_rfl
theorem it32_4 {R : Type} (d : Nat) (K : Ex → St → Option R) : ∀ (n : Nat) (v0 : List (Int × (List UInt8) × (Int × Int × Unit))) (v1 : List (Int × Int × Int × Int × Unit)) (v2 : Int) (v3 : List UInt8) (v4 : Int) (v5 : Int),
    iter (some k32_4) (runD env32 (d + 12) 32 c32_4) n (mkSt p32_4 ((v0, v1, v2, v3, v4, v5, ()), ())) K = obind (lp32_4 n v0 v1 v2 v3 v4 v5) fun o => osum o (fun a => K (.exit 0) (mkSt pa32_4 a)) fun b => K .ret (mkSt pb32_4 b)
  | 0, _, _, _, _, _, _ => rfl
  | n + 1, v0, v1, v2, v3, v4, v5 => by
    rw [step32_4]
    simp only [it32_4 d K n, lp32_4, st32_4, obind_cond, obind_none, obind_some, obind_obind, obind_osum]
    try simp only [osum]
theorem ok32_4 : LoopOk env32 32 c32_4 ls32_4 := loopBy_ok (by kernel_rfl) fun R d K v o h => ⟨fuelN, (it32_4 d K fuelN (v.1.1) (v.1.2.1) (v.1.2.2.1) (v.1.2.2.2.1) (v.1.2.2.2.2.1) (v.1.2.2.2.2.2.1)).trans (congrArg (fun o => obind o _) h)⟩
theorem step32_12 {R : Type} (d : Nat) (n : Nat) (K : Ex → St → Option R) (v0 : List (Int × (List UInt8) × (Int × Int × Unit))) (v1 : List (Int × Int × Int × Int × Unit)) (v2 : Int) (v3 : List UInt8) (v4 : Int) :
    iter (some k32_12) (runD env32 (d + 18) 32 c32_12) (n + 1) (mkSt p32_12 ((v0, v1, v2, v3, v4, ()), ())) K =
      st32_12 (fun v0 v1 v2 v3 v4 => iter (some k32_12) (runD env32 (d + 18) 32 c32_12) n (mkSt p32_12 ((v0, v1, v2, v3, v4, ()), ())) K) (fun e0 => K (.exit 4) (mkSt pa32_12 ((e0, ()), ()))) (fun r0 => K .ret (mkSt pb32_12 ((r0, ()), ()))) v0 v1 v2 v3 v4 := by kernel_rfl
theorem it32_12 {R : Type} (d : Nat) (K : Ex → St → Option R) : ∀ (n : Nat) (v0 : List (Int × (List UInt8) × (Int × Int × Unit))) (v1 : List (Int × Int × Int × Int × Unit)) (v2 : Int) (v3 : List UInt8) (v4 : Int),
    iter (some k32_12) (runD env32 (d + 18) 32 c32_12) n (mkSt p32_12 ((v0, v1, v2, v3, v4, ()), ())) K = obind (lp32_12 n v0 v1 v2 v3 v4) fun o => osum o (fun a => K (.exit 4) (mkSt pa32_12 a)) fun b => K .ret (mkSt pb32_12 b)
  | 0, _, _, _, _, _ => rfl
  | n + 1, v0, v1, v2, v3, v4 => by
    rw [step32_12]
    simp only [it32_12 d K n, lp32_12, st32_12, obind_cond, obind_none, obind_some, obind_obind, obind_osum]
    try simp only [osum]
theorem ok32_12 : LoopOk env32 32 c32_12 ls32_12 := loopBy_ok (by kernel_rfl) fun R d K v o h => ⟨fuelN, (it32_12 d K fuelN (v.1.1) (v.1.2.1) (v.1.2.2.1) (v.1.2.2.2.1) (v.1.2.2.2.2.1)).trans (congrArg (fun o => obind o _) h)⟩
theorem run32 (x0 : List (Int × (List UInt8) × (Int × Int × Unit))) (x1 : List (Int × Int × Int × Int × Unit)) (x2 : Int) : runF env32 32 [.list (.pair (.int .i64) (.pair .str (.pair (.int .i64) (.pair (.int .i64) .unit)))), .list (.pair (.int .i64) (.pair (.int .i64) (.pair (.int .i64) (.pair (.int .i64) .unit)))), .int .i64] [(.str, false)] (x0, x1, x2, ()) = fn32 x0 x1 x2 := by kernel_rfl
theorem lat32 : loopsAt b32 = [c32_7, c32_4, c32_12] := by kernel_rfl
theorem lok32 : loopsOk env32 32 b32 := loopsOk_at b32 (fun _ => rfl) (by rw [lat32]; exact (List.forall_mem_cons.2 ⟨(fun L h => by rw [show env32.lp 32 (firstRegion c32_7) = some ls32_7 by kernel_rfl] at h; cases h; exact ok32_7), (List.forall_mem_cons.2 ⟨(fun L h => by rw [show env32.lp 32 (firstRegion c32_4) = some ls32_4 by kernel_rfl] at h; cases h; exact ok32_4), (List.forall_mem_cons.2 ⟨(fun L h => by rw [show env32.lp 32 (firstRegion c32_12) = some ls32_12 by kernel_rfl] at h; cases h; exact ok32_12), (fun _ h => absurd h List.not_mem_nil)⟩)⟩)⟩))
theorem env32_ok : EnvOk env32 := envOf_ok tok mixed noGor (sg := [(11, sum11)]) (List.forall_mem_cons.2 ⟨(sum11_ok), (fun _ h => absurd h List.not_mem_nil)⟩) (fn := Try.f32) (c := b32) (by kernel_rfl) (by kernel_rfl) lok32 rf_ok chk_ok
theorem sum32_ok : SumOk Try.prog 32 sum32 := sum_of_run env32_ok (by decide) fun x y h => (run32 (x.1) (x.2.1) (x.2.2.1)).trans h

/-! ### quillwort/quillwortref12.first -/
noncomputable def b34 : Code := (Try.f34.body).getD .skip
noncomputable def c34_2 : Code := cA (cA (cB (cA (cB (b34)))))
def k34_2 : Keep := ⟨[0, 1, 2, 6, 7, 100002], [], [6], [], [6], []⟩
def p34_2 : SP := ⟨us [.v (.list (.pair (.int .i64) (.pair .str (.pair (.int .i64) (.pair (.int .i64) .unit))))), .v (.list (.pair (.int .i64) (.pair (.int .i64) (.pair (.int .i64) (.pair (.int .i64) .unit))))), .v (.int .i64), .u, .u, .u, .ptr 1000006 0, .v (.int .i64)] 45, [.box 1000006 23 [.v (.int .i64), .v .str, .v (.int .i64), .v (.int .i64)]]⟩
def pa34_2 : SP := ⟨us [.u, .u, .u, .u, .u, .u, .ptr 1000006 0] 46, [.box 1000006 23 [.v (.int .i64), .v .str, .v (.int .i64), .v (.int .i64)]]⟩
def pb34_2 : SP := ⟨us [.u, .u, .u, .u, .u, .u, .ptr 1000006 0] 46, [.box 1000006 23 [.v (.int .i64), .v .str, .v (.int .i64), .v (.int .i64)]]⟩
def st34_2 {γ : Type} (rec : (List (Int × (List UInt8) × (Int × Int × Unit))) → (List (Int × Int × Int × Int × Unit)) → Int → Int → Int → (List UInt8) → Int → Int → Option γ) (kE : Int → (List UInt8) → Int → Int → Option γ) (kR : Int → (List UInt8) → Int → Int → Option γ) (v0 : List (Int × (List UInt8) × (Int × Int × Unit))) (v1 : List (Int × Int × Int × Int × Unit)) (v2 : Int) (v3 : Int) (v4 : Int) (v5 : List UInt8) (v6 : Int) (v7 : Int) : Option γ :=
  bif (ltI v3 (lenI v1)) then
    bif (inI v1 v3) then
      bif (eqI (getI v1 (0, (0, (0, (0, ())))) v3).2.2.2.1 v2) then
        bif (inI v1 v3) then
          bif (eqI (getI v1 (0, (0, (0, (0, ())))) v3).1 7) then
            bif (inI v1 v3) then
              bif (inI v1 v3) then
                bif (ltI (getI v1 (0, (0, (0, (0, ())))) v3).2.1 (getI v1 (0, (0, (0, (0, ())))) v3).2.2.1) then
                  bif (inI v1 v3) then
                    bif (inI v0 (getI v1 (0, (0, (0, (0, ())))) v3).2.1) then
                      kR (getI v0 (0, ([], (0, (0, ())))) (getI v1 (0, (0, (0, (0, ())))) v3).2.1).1 (getI v0 (0, ([], (0, (0, ())))) (getI v1 (0, (0, (0, (0, ())))) v3).2.1).2.1 (getI v0 (0, ([], (0, (0, ())))) (getI v1 (0, (0, (0, (0, ())))) v3).2.1).2.2.1 (getI v0 (0, ([], (0, (0, ())))) (getI v1 (0, (0, (0, (0, ())))) v3).2.1).2.2.2.1
                    else
                    none
                  else
                  none
                else
                rec v0 v1 v2 (addK .i64 v3 1) v4 v5 v6 v7
              else
              none
            else
            none
          else
          rec v0 v1 v2 (addK .i64 v3 1) v4 v5 v6 v7
        else
        none
      else
      rec v0 v1 v2 (addK .i64 v3 1) v4 v5 v6 v7
    else
    none
  else
  kE v4 v5 v6 v7
def lp34_2 : Nat → (List (Int × (List UInt8) × (Int × Int × Unit))) → (List (Int × Int × Int × Int × Unit)) → Int → Int → Int → (List UInt8) → Int → Int → Option (pa34_2.den ⊕ pb34_2.den)
  | 0, _, _, _, _, _, _, _, _ => none
  | n + 1, v0, v1, v2, v3, v4, v5, v6, v7 => st34_2 (lp34_2 n) (fun e0 e1 e2 e3 => some (.inl ((), ((e0, e1, e2, e3, ()), ())))) (fun r0 r1 r2 r3 => some (.inr ((), ((r0, r1, r2, r3, ()), ())))) v0 v1 v2 v3 v4 v5 v6 v7
noncomputable def ls34_2 : LoopSum := loopBy k34_2 p34_2 pa34_2 pb34_2 (.exit 0) (fun v => lp34_2 fuelN v.1.1 v.1.2.1 v.1.2.2.1 v.1.2.2.2.1 v.2.1.1 v.2.1.2.1 v.2.1.2.2.1 v.2.1.2.2.2.1) 6
def fn34 (x0 : List (Int × (List UInt8) × (Int × Int × Unit))) (x1 : List (Int × Int × Int × Int × Unit)) (x2 : Int) : Option ((Int × (List UInt8) × (Int × Int × Unit)) × Unit) :=
  obind (lp34_2 fuelN x0 x1 x2 (addK .i64 x2 1) 0 [] 0 0) fun y0 =>
    osum y0 (fun a1 =>
      some ((0, ([], (0, (0, ())))), ())) (fun b1 =>
      some ((b1.2.1.1, (b1.2.1.2.1, (b1.2.1.2.2.1, (b1.2.1.2.2.2.1, ())))), ()))
def sum34 : Sum := (⟨[.list (.pair (.int .i64) (.pair .str (.pair (.int .i64) (.pair (.int .i64) .unit)))), .list (.pair (.int .i64) (.pair (.int .i64) (.pair (.int .i64) (.pair (.int .i64) .unit)))), .int .i64], [(.pair (.int .i64) (.pair .str (.pair (.int .i64) (.pair (.int .i64) .unit))), false)], fun x => fn34 x.1 x.2.1 x.2.2.1⟩ : Sum)
noncomputable def env34 : Env := envOf Try.prog tt 34 [] [(2, k34_2)] [(2, ls34_2)]
theorem step34_2 {R : Type} (d : Nat) (n : Nat) (K : Ex → St → Option R) (v0 : List (Int × (List UInt8) × (Int × Int × Unit))) (v1 : List (Int × Int × Int × Int × Unit)) (v2 : Int) (v3 : Int) (v4 : Int) (v5 : List UInt8) (v6 : Int) (v7 : Int) :
    iter (some k34_2) (runD env34 (d + 6) 34 c34_2) (n + 1) (mkSt p34_2 ((v0, v1, v2, v3, ()), ((v4, v5, v6, v7, ()), ()))) K =
      st34_2 (fun v0 v1 v2 v3 v4 v5 v6 v7 => iter (some k34_2) (runD env34 (d + 6) 34 c34_2) n (mkSt p34_2 ((v0, v1, v2, v3, ()), ((v4, v5, v6, v7, ()), ()))) K) (fun e0 e1 e2 e3 => K (.exit 0) (mkSt pa34_2 ((), ((e0, e1, e2, e3, ()), ())))) (fun r0 r1 r2 r3 => K .ret (mkSt pb34_2 ((), ((r0, r1, r2, r3, ()), ())))) v0 v1 v2 v3 v4 v5 v6 v7 := by kernel_rfl
theorem it34_2 {R : Type} (d : Nat) (K : Ex → St → Option R) : ∀ (n : Nat) (v0 : List (Int × (List UInt8) × (Int × Int × Unit))) (v1 : List (Int × Int × Int × Int × Unit)) (v2 : Int) (v3 : Int) (v4 : Int) (v5 : List UInt8) (v6 : Int) (v7 : Int),
    iter (some k34_2) (runD env34 (d + 6) 34 c34_2) n (mkSt p34_2 ((v0, v1, v2, v3, ()), ((v4, v5, v6, v7, ()), ()))) K = obind (lp34_2 n v0 v1 v2 v3 v4 v5 v6 v7) fun o => osum o (fun a => K (.exit 0) (mkSt pa34_2 a)) fun b => K .ret (mkSt pb34_2 b)
  | 0, _, _, _, _, _, _, _, _ => rfl
  | n + 1, v0, v1, v2, v3, v4, v5, v6, v7 => by
    rw [step34_2]
    simp only [it34_2 d K n, lp34_2, st34_2, obind_cond, obind_none, obind_some, obind_obind, obind_osum]
    try simp only [osum]
theorem ok34_2 : LoopOk env34 34 c34_2 ls34_2 := loopBy_ok (by kernel_rfl) fun R d K v o h => ⟨fuelN, (it34_2 d K fuelN (v.1.1) (v.1.2.1) (v.1.2.2.1) (v.1.2.2.2.1) (v.2.1.1) (v.2.1.2.1) (v.2.1.2.2.1) (v.2.1.2.2.2.1)).trans (congrArg (fun o => obind o _) h)⟩
theorem run34 (x0 : List (Int × (List UInt8) × (Int × Int × Unit))) (x1 : List (Int × Int × Int × Int × Unit)) (x2 : Int) : runF env34 34 [.list (.pair (.int .i64) (.pair .str (.pair (.int .i64) (.pair (.int .i64) .unit)))), .list (.pair (.int .i64) (.pair (.int .i64) (.pair (.int .i64) (.pair (.int .i64) .unit)))), .int .i64] [(.pair (.int .i64) (.pair .str (.pair (.int .i64) (.pair (.int .i64) .unit))), false)] (x0, x1, x2, ()) = fn34 x0 x1 x2 := by kernel_rfl
theorem lat34 : loopsAt b34 = [c34_2] := by kernel_rfl
theorem lok34 : loopsOk env34 34 b34 := loopsOk_at b34 (fun _ => rfl) (by rw [lat34]; exact (List.forall_mem_cons.2 ⟨(fun L h => by rw [show env34.lp 34 (firstRegion c34_2) = some ls34_2 by kernel_rfl] at h; cases h; exact ok34_2), (fun _ h => absurd h List.not_mem_nil)⟩))
theorem env34_ok : EnvOk env34 := envOf_ok tok mixed noGor (sg := []) (fun _ h => absurd h List.not_mem_nil) (fn := Try.f34) (c := b34) (by kernel_rfl) (by kernel_rfl) lok34 rf_ok chk_ok
theorem sum34_ok : SumOk Try.prog 34 sum34 := sum_of_run env34_ok (by decide) fun x y h => (run34 (x.1) (x.2.1) (x.2.2.1)).trans h

/-! ### quillwort/quillwortref12.Fits -/
noncomputable def b16 : Code := (Try.f16.body).getD .skip
noncomputable def c16_800004 : Code := cB (cB (cB (b16)))
noncomputable def c16_800010 : Code := cB (cB (cB (cB (cB (b16)))))
def k16_800004 : Keep := ⟨[0, 1, 2, 7, 900004], [], [6], [], [6], []⟩
def k16_800010 : Keep := ⟨[0, 1, 2, 7, 900010], [], [6], [], [6], []⟩
def p16_800010 : SP := ⟨us [.v (.list (.pair (.int .i64) (.pair .str (.pair (.int .i64) (.pair (.int .i64) .unit))))), .v (.list (.pair (.int .i64) (.pair (.int .i64) (.pair (.int .i64) (.pair (.int .i64) .unit))))), .v (.int .i64), .u, .u, .u, .u, .ptr 1000007 0] 177, [.box 1000007 43 [.v (.int .i64), .v (.int .i64), .v (.int .i64), .v (.int .i64)]]⟩
def pa16_800010 : SP := ⟨[], []⟩
def pb16_800010 : SP := ⟨us [.u, .u, .u, .u, .u, .u, .v .bool] 178, []⟩
def st16_800010 {γ : Type} (kE : Option γ) (kR : Bool → Option γ) (v0 : List (Int × (List UInt8) × (Int × Int × Unit))) (v1 : List (Int × Int × Int × Int × Unit)) (v2 : Int) (v3 : Int) (v4 : Int) (v5 : Int) (v6 : Int) : Option γ :=
  obind (fn34 v0 v1 v2) fun y0 =>
    bif (eqI v3 5) then
      bif (inI v0 v4) then
        bif (eqI (getI v0 (0, ([], (0, (0, ())))) v4).1 6) then
          bif (inI v0 v4) then
            obind (fn19 (getI v0 (0, ([], (0, (0, ())))) v4).2.1) fun y1 =>
              bif y1.1 then
                kR false
              else
              obind (fn20 y0.1.2.1) fun y2 =>
                bif (ltI 0 y2.1) then
                  kR false
                else
                bif (eqI v5 (lenI v0)) then
                  kR true
                else
                bif (inI v0 v5) then
                  bif (!(eqI (getI v0 (0, ([], (0, (0, ())))) v5).1 6)) then
                    bif (inI v0 v5) then
                      bif (!(eqI (getI v0 (0, ([], (0, (0, ())))) v5).1 5)) then
                        bif (inI v0 v5) then
                          obind (fn11 (getI v0 (0, ([], (0, (0, ())))) v5)) fun y3 =>
                            kR (!(eqS y3.1 [60]))
                        else
                        none
                      else
                      kR false
                    else
                    none
                  else
                  kR false
                else
                none
          else
          none
        else
        obind (fn20 y0.1.2.1) fun y1 =>
          bif (ltI 0 y1.1) then
            kR false
          else
          bif (eqI v5 (lenI v0)) then
            kR true
          else
          bif (inI v0 v5) then
            bif (!(eqI (getI v0 (0, ([], (0, (0, ())))) v5).1 6)) then
              bif (inI v0 v5) then
                bif (!(eqI (getI v0 (0, ([], (0, (0, ())))) v5).1 5)) then
                  bif (inI v0 v5) then
                    obind (fn11 (getI v0 (0, ([], (0, (0, ())))) v5)) fun y2 =>
                      kR (!(eqS y2.1 [60]))
                  else
                  none
                else
                kR false
              else
              none
            else
            kR false
          else
          none
      else
      none
    else
    bif (eqI v3 16) then
      obind (fn35 y0.1.2.1) fun y1 =>
        bif y1.1 then
          obind (fn19 y0.1.2.1) fun y2 =>
            kR (!y2.1)
        else
        kR false
    else
    bif (eqI v3 13) then
      obind (fn35 y0.1.2.1) fun y1 =>
        kR y1.1
    else
    bif (eqI v3 15) then
      bif (inI v0 v4) then
        obind (fn11 (getI v0 (0, ([], (0, (0, ())))) v4)) fun y1 =>
          bif (eqS y1.1 [40]) then
            kR true
          else
          kR (!(eqS y0.1.2.1 [101, 115, 97, 99]))
      else
      none
    else
    kR true
def lp16_800010 (v0 : List (Int × (List UInt8) × (Int × Int × Unit))) (v1 : List (Int × Int × Int × Int × Unit)) (v2 : Int) (v3 : Int) (v4 : Int) (v5 : Int) (v6 : Int) : Option (pa16_800010.den ⊕ pb16_800010.den) := st16_800010 (some (.inl ((), ()))) (fun r0 => some (.inr ((r0, ()), ()))) v0 v1 v2 v3 v4 v5 v6
noncomputable def ls16_800010 : LoopSum := loopBy k16_800010 p16_800010 pa16_800010 pb16_800010 (.exit 0) (fun v => lp16_800010 v.1.1 v.1.2.1 v.1.2.2.1 v.2.1.1 v.2.1.2.1 v.2.1.2.2.1 v.2.1.2.2.2.1) 6
def p16_800004 : SP := ⟨us [.v (.list (.pair (.int .i64) (.pair .str (.pair (.int .i64) (.pair (.int .i64) .unit))))), .v (.list (.pair (.int .i64) (.pair (.int .i64) (.pair (.int .i64) (.pair (.int .i64) .unit))))), .v (.int .i64), .u, .u, .u, .u, .ptr 1000007 0] 177, [.box 1000007 43 [.v (.int .i64), .v (.int .i64), .v (.int .i64), .v (.int .i64)]]⟩
def pa16_800004 : SP := ⟨[], []⟩
def pb16_800004 : SP := ⟨us [.u, .u, .u, .u, .u, .u, .v .bool] 178, []⟩
def st16_800004 {γ : Type} (kE : Option γ) (kR : Bool → Option γ) (v0 : List (Int × (List UInt8) × (Int × Int × Unit))) (v1 : List (Int × Int × Int × Int × Unit)) (v2 : Int) (v3 : Int) (v4 : Int) (v5 : Int) (v6 : Int) : Option γ :=
  bif (eqI v3 6) then
    bif (!(eqI v5 (addK .i64 v4 1))) then
      kR false
    else
    bif (ltI (addK .i64 v2 1) (lenI v1)) then
      bif (inI v1 (addK .i64 v2 1)) then
        bif (eqI (getI v1 (0, (0, (0, (0, ())))) (addK .i64 v2 1)).2.2.2.1 v2) then
          kR false
        else
        bif (inI v0 v4) then
          bif (!(eqI (getI v0 (0, ([], (0, (0, ())))) v4).1 6)) then
            kR false
          else
          bif (eqI v3 7) then
            kR true
          else
          bif (inI v0 v4) then
            obind (fn20 (getI v0 (0, ([], (0, (0, ())))) v4).2.1) fun y0 =>
              kR (ltI 0 y0.1)
          else
          none
        else
        none
      else
      none
    else
    bif (inI v0 v4) then
      bif (!(eqI (getI v0 (0, ([], (0, (0, ())))) v4).1 6)) then
        kR false
      else
      bif (eqI v3 7) then
        kR true
      else
      bif (inI v0 v4) then
        obind (fn20 (getI v0 (0, ([], (0, (0, ())))) v4).2.1) fun y0 =>
          kR (ltI 0 y0.1)
      else
      none
    else
    none
  else
  bif (eqI v3 7) then
    bif (!(eqI v5 (addK .i64 v4 1))) then
      kR false
    else
    bif (ltI (addK .i64 v2 1) (lenI v1)) then
      bif (inI v1 (addK .i64 v2 1)) then
        bif (eqI (getI v1 (0, (0, (0, (0, ())))) (addK .i64 v2 1)).2.2.2.1 v2) then
          kR false
        else
        bif (inI v0 v4) then
          bif (!(eqI (getI v0 (0, ([], (0, (0, ())))) v4).1 6)) then
            kR false
          else
          bif (eqI v3 7) then
            kR true
          else
          bif (inI v0 v4) then
            obind (fn20 (getI v0 (0, ([], (0, (0, ())))) v4).2.1) fun y0 =>
              kR (ltI 0 y0.1)
          else
          none
        else
        none
      else
      none
    else
    bif (inI v0 v4) then
      bif (!(eqI (getI v0 (0, ([], (0, (0, ())))) v4).1 6)) then
        kR false
      else
      bif (eqI v3 7) then
        kR true
      else
      bif (inI v0 v4) then
        obind (fn20 (getI v0 (0, ([], (0, (0, ())))) v4).2.1) fun y0 =>
          kR (ltI 0 y0.1)
      else
      none
    else
    none
  else
  obind (fn32 v0 v1 v2) fun y0 =>
    obind (fn31 v3 y0.1) fun y1 =>
      bif (!y1.1) then
        kR false
      else
      obind (fn33 v3) fun y2 =>
        bif y2.1 then
          obind (fn23 v1 v2) fun y3 =>
            bif (leI 200 y3.1) then
              kR false
            else
            obind (lp16_800010 v0 v1 v2 v3 v4 v5 v6) fun y4 =>
              osum y4 (fun a5 =>
                kE ) (fun b5 =>
                kR b5.1.1)
        else
        obind (lp16_800010 v0 v1 v2 v3 v4 v5 v6) fun y3 =>
          osum y3 (fun a4 =>
            kE ) (fun b4 =>
            kR b4.1.1)
def lp16_800004 (v0 : List (Int × (List UInt8) × (Int × Int × Unit))) (v1 : List (Int × Int × Int × Int × Unit)) (v2 : Int) (v3 : Int) (v4 : Int) (v5 : Int) (v6 : Int) : Option (pa16_800004.den ⊕ pb16_800004.den) := st16_800004 (some (.inl ((), ()))) (fun r0 => some (.inr ((r0, ()), ()))) v0 v1 v2 v3 v4 v5 v6
noncomputable def ls16_800004 : LoopSum := loopBy k16_800004 p16_800004 pa16_800004 pb16_800004 (.exit 0) (fun v => lp16_800004 v.1.1 v.1.2.1 v.1.2.2.1 v.2.1.1 v.2.1.2.1 v.2.1.2.2.1 v.2.1.2.2.2.1) 12
def fn16 (x0 : List (Int × (List UInt8) × (Int × Int × Unit))) (x1 : List (Int × Int × Int × Int × Unit)) (x2 : Int) : Option (Bool × Unit) :=
  bif (inI x1 x2) then
    bif (!(eqI (getI x1 (0, (0, (0, (0, ())))) x2).1 1)) then
      bif (eqI (getI x1 (0, (0, (0, (0, ())))) x2).2.1 (getI x1 (0, (0, (0, (0, ())))) x2).2.2.1) then
        some (false, ())
      else
      obind (lp16_800004 x0 x1 x2 (getI x1 (0, (0, (0, (0, ())))) x2).1 (getI x1 (0, (0, (0, (0, ())))) x2).2.1 (getI x1 (0, (0, (0, (0, ())))) x2).2.2.1 (getI x1 (0, (0, (0, (0, ())))) x2).2.2.2.1) fun y0 =>
        osum y0 (fun a1 =>
          none) (fun b1 =>
          some (b1.1.1, ()))
    else
    obind (lp16_800004 x0 x1 x2 (getI x1 (0, (0, (0, (0, ())))) x2).1 (getI x1 (0, (0, (0, (0, ())))) x2).2.1 (getI x1 (0, (0, (0, (0, ())))) x2).2.2.1 (getI x1 (0, (0, (0, (0, ())))) x2).2.2.2.1) fun y0 =>
      osum y0 (fun a1 =>
        none) (fun b1 =>
        some (b1.1.1, ()))
  else
  none
def sum16 : Sum := (⟨[.list (.pair (.int .i64) (.pair .str (.pair (.int .i64) (.pair (.int .i64) .unit)))), .list (.pair (.int .i64) (.pair (.int .i64) (.pair (.int .i64) (.pair (.int .i64) .unit)))), .int .i64], [(.bool, false)], fun x => fn16 x.1 x.2.1 x.2.2.1⟩ : Sum)
noncomputable def env16 : Env := envOf Try.prog tt 16 [(11, sum11), (19, sum19), (20, sum20), (23, sum23), (31, sum31), (32, sum32), (33, sum33), (34, sum34), (35, sum35)] [(800004, k16_800004), (800010, k16_800010)] [(800010, ls16_800010), (800004, ls16_800004)]
theorem step16_800010 {R : Type} (d : Nat) (K : Ex → St → Option R) (v0 : List (Int × (List UInt8) × (Int × Int × Unit))) (v1 : List (Int × Int × Int × Int × Unit)) (v2 : Int) (v3 : Int) (v4 : Int) (v5 : Int) (v6 : Int) :
    iter (some k16_800010) (cutF (runD env16 (d + 6) 16 c16_800010)) 1 (mkSt p16_800010 ((v0, v1, v2, ()), ((v3, v4, v5, v6, ()), ()))) K =
      st16_800010 (K (.exit 0) (mkSt pa16_800010 ((), ()))) (fun r0 => K .ret (mkSt pb16_800010 ((r0, ()), ()))) v0 v1 v2 v3 v4 v5 v6 := by kernel_rfl
theorem it16_800010 {R : Type} (d : Nat) (K : Ex → St → Option R) (v0 : List (Int × (List UInt8) × (Int × Int × Unit))) (v1 : List (Int × Int × Int × Int × Unit)) (v2 : Int) (v3 : Int) (v4 : Int) (v5 : Int) (v6 : Int) :
    iter (some k16_800010) (cutF (runD env16 (d + 6) 16 c16_800010)) 1 (mkSt p16_800010 ((v0, v1, v2, ()), ((v3, v4, v5, v6, ()), ()))) K = obind (lp16_800010 v0 v1 v2 v3 v4 v5 v6) fun o => osum o (fun a => K (.exit 0) (mkSt pa16_800010 a)) fun b => K .ret (mkSt pb16_800010 b) := by
    rw [step16_800010]
    simp only [lp16_800010, st16_800010, obind_cond, obind_none, obind_some, obind_obind, obind_osum]
    try simp only [osum]
theorem ok16_800010 : CutOk env16 16 c16_800010 ls16_800010 := cutBy_ok (by kernel_rfl) fun R d K v o h => ⟨1, (it16_800010 d K (v.1.1) (v.1.2.1) (v.1.2.2.1) (v.2.1.1) (v.2.1.2.1) (v.2.1.2.2.1) (v.2.1.2.2.2.1)).trans (congrArg (fun o => obind o _) h)⟩
theorem step16_800004 {R : Type} (d : Nat) (K : Ex → St → Option R) (v0 : List (Int × (List UInt8) × (Int × Int × Unit))) (v1 : List (Int × Int × Int × Int × Unit)) (v2 : Int) (v3 : Int) (v4 : Int) (v5 : Int) (v6 : Int) :
    iter (some k16_800004) (cutF (runD env16 (d + 12) 16 c16_800004)) 1 (mkSt p16_800004 ((v0, v1, v2, ()), ((v3, v4, v5, v6, ()), ()))) K =
      st16_800004 (K (.exit 0) (mkSt pa16_800004 ((), ()))) (fun r0 => K .ret (mkSt pb16_800004 ((r0, ()), ()))) v0 v1 v2 v3 v4 v5 v6 := by kernel_rfl
theorem it16_800004 {R : Type} (d : Nat) (K : Ex → St → Option R) (v0 : List (Int × (List UInt8) × (Int × Int × Unit))) (v1 : List (Int × Int × Int × Int × Unit)) (v2 : Int) (v3 : Int) (v4 : Int) (v5 : Int) (v6 : Int) :
    iter (some k16_800004) (cutF (runD env16 (d + 12) 16 c16_800004)) 1 (mkSt p16_800004 ((v0, v1, v2, ()), ((v3, v4, v5, v6, ()), ()))) K = obind (lp16_800004 v0 v1 v2 v3 v4 v5 v6) fun o => osum o (fun a => K (.exit 0) (mkSt pa16_800004 a)) fun b => K .ret (mkSt pb16_800004 b) := by
    rw [step16_800004]
    simp only [lp16_800004, st16_800004, obind_cond, obind_none, obind_some, obind_obind, obind_osum]
    try simp only [osum]
theorem ok16_800004 : CutOk env16 16 c16_800004 ls16_800004 := cutBy_ok (by kernel_rfl) fun R d K v o h => ⟨1, (it16_800004 d K (v.1.1) (v.1.2.1) (v.1.2.2.1) (v.2.1.1) (v.2.1.2.1) (v.2.1.2.2.1) (v.2.1.2.2.2.1)).trans (congrArg (fun o => obind o _) h)⟩
theorem run16 (x0 : List (Int × (List UInt8) × (Int × Int × Unit))) (x1 : List (Int × Int × Int × Int × Unit)) (x2 : Int) : runF env16 16 [.list (.pair (.int .i64) (.pair .str (.pair (.int .i64) (.pair (.int .i64) .unit)))), .list (.pair (.int .i64) (.pair (.int .i64) (.pair (.int .i64) (.pair (.int .i64) .unit)))), .int .i64] [(.bool, false)] (x0, x1, x2, ()) = fn16 x0 x1 x2 := by kernel_rfl
theorem lat16 : loopsAt b16 = [] := by kernel_rfl
theorem cat16 : knownCuts env16 16 b16 = [c16_800004, c16_800010] := by kernel_rfl
theorem lok16 : loopsOk env16 16 b16 := loopsOk_at3 b16 (fun x _ hx => absurd (show false = true from hx) (by decide)) (by rw [lat16]; exact (fun _ h => absurd h List.not_mem_nil)) (knownCuts_ok (by rw [cat16]; exact (List.forall_mem_cons.2 ⟨(fun L h => by rw [show env16.lp 16 (800000 + firstRegion c16_800004) = some ls16_800004 by kernel_rfl] at h; cases h; exact ok16_800004), (List.forall_mem_cons.2 ⟨(fun L h => by rw [show env16.lp 16 (800000 + firstRegion c16_800010) = some ls16_800010 by kernel_rfl] at h; cases h; exact ok16_800010), (fun _ h => absurd h List.not_mem_nil)⟩)⟩)))
theorem env16_ok : EnvOk env16 := envOf_ok tok mixed noGor (sg := [(11, sum11), (19, sum19), (20, sum20), (23, sum23), (31, sum31), (32, sum32), (33, sum33), (34, sum34), (35, sum35)]) (List.forall_mem_cons.2 ⟨(sum11_ok), (List.forall_mem_cons.2 ⟨(sum19_ok), (List.forall_mem_cons.2 ⟨(sum20_ok), (List.forall_mem_cons.2 ⟨(sum23_ok), (List.forall_mem_cons.2 ⟨(sum31_ok), (List.forall_mem_cons.2 ⟨(sum32_ok), (List.forall_mem_cons.2 ⟨(sum33_ok), (List.forall_mem_cons.2 ⟨(sum34_ok), (List.forall_mem_cons.2 ⟨(sum35_ok), (fun _ h => absurd h List.not_mem_nil)⟩)⟩)⟩)⟩)⟩)⟩)⟩)⟩)⟩) (fn := Try.f16) (c := b16) (by kernel_rfl) (by kernel_rfl) lok16 rf_ok chk_ok
theorem sum16_ok : SumOk Try.prog 16 sum16 := sum_of_run env16_ok (by decide) fun x y h => (run16 (x.1) (x.2.1) (x.2.2.1)).trans h

/-! ### quillwort/quillwortref12.Right -/
noncomputable def b14 : Code := (Try.f14.body).getD .skip
noncomputable def c14_4 : Code := cA (cA (cB (cA (cB (cB (b14))))))
def k14_4 : Keep := ⟨[0, 1, 5, 100004], [], [], [], [4], []⟩
def p14_4 : SP := ⟨us [.v (.list (.pair (.int .i64) (.pair .str (.pair (.int .i64) (.pair (.int .i64) .unit))))), .v (.list (.pair (.int .i64) (.pair (.int .i64) (.pair (.int .i64) (.pair (.int .i64) .unit))))), .u, .u, .u, .v (.int .i64)] 23, []⟩
def pa14_4 : SP := ⟨us [] 29, []⟩
def pb14_4 : SP := ⟨us [.u, .u, .u, .u, .v .bool] 24, []⟩
def st14_4 {γ : Type} (rec : (List (Int × (List UInt8) × (Int × Int × Unit))) → (List (Int × Int × Int × Int × Unit)) → Int → Option γ) (kE : Option γ) (kR : Bool → Option γ) (v0 : List (Int × (List UInt8) × (Int × Int × Unit))) (v1 : List (Int × Int × Int × Int × Unit)) (v2 : Int) : Option γ :=
  bif (ltI v2 (lenI v1)) then
    obind (fn16 v0 v1 v2) fun y0 =>
      bif (!y0.1) then
        kR false
      else
      rec v0 v1 (addK .i64 v2 1)
  else
  kE 
def lp14_4 : Nat → (List (Int × (List UInt8) × (Int × Int × Unit))) → (List (Int × Int × Int × Int × Unit)) → Int → Option (pa14_4.den ⊕ pb14_4.den)
  | 0, _, _, _ => none
  | n + 1, v0, v1, v2 => st14_4 (lp14_4 n) (some (.inl ((), ()))) (fun r0 => some (.inr ((r0, ()), ()))) v0 v1 v2
noncomputable def ls14_4 : LoopSum := loopBy k14_4 p14_4 pa14_4 pb14_4 (.exit 0) (fun v => lp14_4 fuelN v.1.1 v.1.2.1 v.1.2.2.1) 6
def fn14 (x0 : List (Int × (List UInt8) × (Int × Int × Unit))) (x1 : List (Int × Int × Int × Int × Unit)) : Option (Bool × Unit) :=
  obind (fn15 x1 (lenI x0)) fun y0 =>
    bif (!y0.1) then
      some (false, ())
    else
    bif (inI x1 0) then
      bif (!(eqI (getI x1 (0, (0, (0, (0, ())))) 0).1 1)) then
        some (false, ())
      else
      obind (lp14_4 fuelN x0 x1 0) fun y1 =>
        osum y1 (fun a2 =>
          some (true, ())) (fun b2 =>
          some (b2.1.1, ()))
    else
    none
def sum14 : Sum := (⟨[.list (.pair (.int .i64) (.pair .str (.pair (.int .i64) (.pair (.int .i64) .unit)))), .list (.pair (.int .i64) (.pair (.int .i64) (.pair (.int .i64) (.pair (.int .i64) .unit))))], [(.bool, false)], fun x => fn14 x.1 x.2.1⟩ : Sum)
noncomputable def env14 : Env := envOf Try.prog tt 14 [(15, sum15), (16, sum16)] [(4, k14_4)] [(4, ls14_4)]
theorem step14_4 {R : Type} (d : Nat) (n : Nat) (K : Ex → St → Option R) (v0 : List (Int × (List UInt8) × (Int × Int × Unit))) (v1 : List (Int × Int × Int × Int × Unit)) (v2 : Int) :
    iter (some k14_4) (runD env14 (d + 6) 14 c14_4) (n + 1) (mkSt p14_4 ((v0, v1, v2, ()), ())) K =
      st14_4 (fun v0 v1 v2 => iter (some k14_4) (runD env14 (d + 6) 14 c14_4) n (mkSt p14_4 ((v0, v1, v2, ()), ())) K) (K (.exit 0) (mkSt pa14_4 ((), ()))) (fun r0 => K .ret (mkSt pb14_4 ((r0, ()), ()))) v0 v1 v2 := by kernel_rfl
theorem it14_4 {R : Type} (d : Nat) (K : Ex → St → Option R) : ∀ (n : Nat) (v0 : List (Int × (List UInt8) × (Int × Int × Unit))) (v1 : List (Int × Int × Int × Int × Unit)) (v2 : Int),
    iter (some k14_4) (runD env14 (d + 6) 14 c14_4) n (mkSt p14_4 ((v0, v1, v2, ()), ())) K = obind (lp14_4 n v0 v1 v2) fun o => osum o (fun a => K (.exit 0) (mkSt pa14_4 a)) fun b => K .ret (mkSt pb14_4 b)
  | 0, _, _, _ => rfl
  | n + 1, v0, v1, v2 => by
    rw [step14_4]
    simp only [it14_4 d K n, lp14_4, st14_4, obind_cond, obind_none, obind_some, obind_obind, obind_osum]
    try simp only [osum]
theorem ok14_4 : LoopOk env14 14 c14_4 ls14_4 := loopBy_ok (by kernel_rfl) fun R d K v o h => ⟨fuelN, (it14_4 d K fuelN (v.1.1) (v.1.2.1) (v.1.2.2.1)).trans (congrArg (fun o => obind o _) h)⟩
theorem run14 (x0 : List (Int × (List UInt8) × (Int × Int × Unit))) (x1 : List (Int × Int × Int × Int × Unit)) : runF env14 14 [.list (.pair (.int .i64) (.pair .str (.pair (.int .i64) (.pair (.int .i64) .unit)))), .list (.pair (.int .i64) (.pair (.int .i64) (.pair (.int .i64) (.pair (.int .i64) .unit))))] [(.bool, false)] (x0, x1, ()) = fn14 x0 x1 := by kernel_rfl
theorem lat14 : loopsAt b14 = [c14_4] := by kernel_rfl
theorem lok14 : loopsOk env14 14 b14 := loopsOk_at b14 (fun _ => rfl) (by rw [lat14]; exact (List.forall_mem_cons.2 ⟨(fun L h => by rw [show env14.lp 14 (firstRegion c14_4) = some ls14_4 by kernel_rfl] at h; cases h; exact ok14_4), (fun _ h => absurd h List.not_mem_nil)⟩))
theorem env14_ok : EnvOk env14 := envOf_ok tok mixed noGor (sg := [(15, sum15), (16, sum16)]) (List.forall_mem_cons.2 ⟨(sum15_ok), (List.forall_mem_cons.2 ⟨(sum16_ok), (fun _ h => absurd h List.not_mem_nil)⟩)⟩) (fn := Try.f14) (c := b14) (by kernel_rfl) (by kernel_rfl) lok14 rf_ok chk_ok
theorem sum14_ok : SumOk Try.prog 14 sum14 := sum_of_run env14_ok (by decide) fun x y h => (run14 (x.1) (x.2.1)).trans h

/-! ### quillwort/quillwortlaw12.RulesRight -/
noncomputable def b4 : Code := (Try.f4.body).getD .skip
noncomputable def c4_11 : Code := cA (cA (cB (cA (cB (cB (cB (cB (cB (cB (b4))))))))))
def k4_11 : Keep := ⟨[0, 1, 5, 6, 100011], [], [0, 1, 5], [], [4], []⟩
def p4_11 : SP := ⟨us [.v (.list (.pair (.int .i64) (.pair .str (.pair (.int .i64) (.pair (.int .i64) .unit))))), .v (.list (.pair (.int .i64) (.pair (.int .i64) (.pair (.int .i64) (.pair (.int .i64) .unit))))), .u, .u, .u, .v (.int .i64), .v (.int .i64)] 40, []⟩
def pa4_11 : SP := ⟨us [.v (.list (.pair (.int .i64) (.pair .str (.pair (.int .i64) (.pair (.int .i64) .unit))))), .v (.list (.pair (.int .i64) (.pair (.int .i64) (.pair (.int .i64) (.pair (.int .i64) .unit))))), .u, .u, .u, .v (.int .i64)] 41, []⟩
def pb4_11 : SP := ⟨us [.u, .u, .u, .u, .v .bool] 42, []⟩
def st4_11 {γ : Type} (rec : (List (Int × (List UInt8) × (Int × Int × Unit))) → (List (Int × Int × Int × Int × Unit)) → Int → Int → Option γ) (kE : (List (Int × (List UInt8) × (Int × Int × Unit))) → (List (Int × Int × Int × Int × Unit)) → Int → Option γ) (kR : Bool → Option γ) (v0 : List (Int × (List UInt8) × (Int × Int × Unit))) (v1 : List (Int × Int × Int × Int × Unit)) (v2 : Int) (v3 : Int) : Option γ :=
  bif (leI 0 v3) then
    obind (fn16 v0 v1 v3) fun y0 =>
      bif (!y0.1) then
        rec v0 v1 v3 (subK .i64 v3 1)
      else
      rec v0 v1 v2 (subK .i64 v3 1)
  else
  kE v0 v1 v2
def lp4_11 : Nat → (List (Int × (List UInt8) × (Int × Int × Unit))) → (List (Int × Int × Int × Int × Unit)) → Int → Int → Option (pa4_11.den ⊕ pb4_11.den)
  | 0, _, _, _, _ => none
  | n + 1, v0, v1, v2, v3 => st4_11 (lp4_11 n) (fun e0 e1 e2 => some (.inl ((e0, e1, e2, ()), ()))) (fun r0 => some (.inr ((r0, ()), ()))) v0 v1 v2 v3
noncomputable def ls4_11 : LoopSum := loopBy k4_11 p4_11 pa4_11 pb4_11 (.exit 0) (fun v => lp4_11 fuelN v.1.1 v.1.2.1 v.1.2.2.1 v.1.2.2.2.1) 6
def fn4 (x0 : List (Int × (List UInt8) × (Int × Int × Unit))) (x1 : List (Int × Int × Int × Int × Unit)) : Option (Bool × Unit) :=
  obind (fn12 x0 40) fun y0 =>
    bif (!y0.1) then
      some (true, ())
    else
    bif (ltI 60 (lenI x1)) then
      some (true, ())
    else
    obind (fn13 x0 x1) fun y1 =>
      obind (fn14 x0 x1) fun y2 =>
        bif (!(eqB y1.1 y2.1)) then
          some (false, ())
        else
        obind (fn15 x1 (lenI x0)) fun y3 =>
          bif (!y3.1) then
            some (true, ())
          else
          obind (lp4_11 fuelN x0 x1 (-1) (subK .i64 (lenI x1) 1)) fun y4 =>
            osum y4 (fun a5 =>
              obind (fn17 a5.1.1 a5.1.2.1) fun y6 =>
                some ((eqI y6.1 a5.1.2.2.1), ())) (fun b5 =>
              some (b5.1.1, ()))
def sum4 : Sum := (⟨[.list (.pair (.int .i64) (.pair .str (.pair (.int .i64) (.pair (.int .i64) .unit)))), .list (.pair (.int .i64) (.pair (.int .i64) (.pair (.int .i64) (.pair (.int .i64) .unit))))], [(.bool, false)], fun x => fn4 x.1 x.2.1⟩ : Sum)
noncomputable def env4 : Env := envOf Try.prog tt 4 [(9, sumAwake), (12, sum12), (13, sum13), (14, sum14), (15, sum15), (16, sum16), (17, sum17)] [(11, k4_11)] [(11, ls4_11)]
theorem step4_11 {R : Type} (d : Nat) (n : Nat) (K : Ex → St → Option R) (v0 : List (Int × (List UInt8) × (Int × Int × Unit))) (v1 : List (Int × Int × Int × Int × Unit)) (v2 : Int) (v3 : Int) :
    iter (some k4_11) (runD env4 (d + 6) 4 c4_11) (n + 1) (mkSt p4_11 ((v0, v1, v2, v3, ()), ())) K =
      st4_11 (fun v0 v1 v2 v3 => iter (some k4_11) (runD env4 (d + 6) 4 c4_11) n (mkSt p4_11 ((v0, v1, v2, v3, ()), ())) K) (fun e0 e1 e2 => K (.exit 0) (mkSt pa4_11 ((e0, e1, e2, ()), ()))) (fun r0 => K .ret (mkSt pb4_11 ((r0, ()), ()))) v0 v1 v2 v3 := by kernel_rfl
theorem it4_11 {R : Type} (d : Nat) (K : Ex → St → Option R) : ∀ (n : Nat) (v0 : List (Int × (List UInt8) × (Int × Int × Unit))) (v1 : List (Int × Int × Int × Int × Unit)) (v2 : Int) (v3 : Int),
    iter (some k4_11) (runD env4 (d + 6) 4 c4_11) n (mkSt p4_11 ((v0, v1, v2, v3, ()), ())) K = obind (lp4_11 n v0 v1 v2 v3) fun o => osum o (fun a => K (.exit 0) (mkSt pa4_11 a)) fun b => K .ret (mkSt pb4_11 b)
  | 0, _, _, _, _ => rfl
  | n + 1, v0, v1, v2, v3 => by
    rw [step4_11]
    simp only [it4_11 d K n, lp4_11, st4_11, obind_cond, obind_none, obind_some, obind_obind, obind_osum]
    try simp only [osum]
theorem ok4_11 : LoopOk env4 4 c4_11 ls4_11 := loopBy_ok (by kernel_rfl) fun R d K v o h => ⟨fuelN, (it4_11 d K fuelN (v.1.1) (v.1.2.1) (v.1.2.2.1) (v.1.2.2.2.1)).trans (congrArg (fun o => obind o _) h)⟩
theorem run4 (x0 : List (Int × (List UInt8) × (Int × Int × Unit))) (x1 : List (Int × Int × Int × Int × Unit)) : runF env4 4 [.list (.pair (.int .i64) (.pair .str (.pair (.int .i64) (.pair (.int .i64) .unit)))), .list (.pair (.int .i64) (.pair (.int .i64) (.pair (.int .i64) (.pair (.int .i64) .unit))))] [(.bool, false)] (x0, x1, ()) = fn4 x0 x1 := by kernel_rfl
theorem lat4 : loopsAt b4 = [c4_11] := by kernel_rfl
theorem lok4 : loopsOk env4 4 b4 := loopsOk_at b4 (fun _ => rfl) (by rw [lat4]; exact (List.forall_mem_cons.2 ⟨(fun L h => by rw [show env4.lp 4 (firstRegion c4_11) = some ls4_11 by kernel_rfl] at h; cases h; exact ok4_11), (fun _ h => absurd h List.not_mem_nil)⟩))
theorem env4_ok : EnvOk env4 := envOf_ok tok mixed noGor (sg := [(9, sumAwake), (12, sum12), (13, sum13), (14, sum14), (15, sum15), (16, sum16), (17, sum17)]) (List.forall_mem_cons.2 ⟨(sumAwake_ok), (List.forall_mem_cons.2 ⟨(sum12_ok), (List.forall_mem_cons.2 ⟨(sum13_ok), (List.forall_mem_cons.2 ⟨(sum14_ok), (List.forall_mem_cons.2 ⟨(sum15_ok), (List.forall_mem_cons.2 ⟨(sum16_ok), (List.forall_mem_cons.2 ⟨(sum17_ok), (fun _ h => absurd h List.not_mem_nil)⟩)⟩)⟩)⟩)⟩)⟩)⟩) (fn := Try.f4) (c := b4) (by kernel_rfl) (by kernel_rfl) lok4 rf_ok chk_ok
theorem sum4_ok : SumOk Try.prog 4 sum4 := sum_of_run env4_ok (by decide) fun x y h => (run4 (x.1) (x.2.1)).trans h

/-! ### quillwort/quillwortlaw12.words -/
noncomputable def b18 : Code := (Try.f18.body).getD .skip
noncomputable def c18_3 : Code := cA (cA (cB (cA (cB (cB (b18))))))
def k18_3 : Keep := ⟨[0, 3, 4, 100003], [(3, (.pair (.int .i64) (.pair .str (.pair (.int .i64) (.pair (.int .i64) .unit)))))], [3], [], [2], [(2, (.pair (.int .i64) (.pair .str (.pair (.int .i64) (.pair (.int .i64) .unit)))))]⟩
def p18_3 : SP := ⟨us [.v (.list .str), .u, .u, .slc 1800003, .v (.int .i64)] 15, [.arr 1800003 (.pair (.int .i64) (.pair .str (.pair (.int .i64) (.pair (.int .i64) .unit))))]⟩
def pa18_3 : SP := ⟨us [.u, .u, .u, .slc 1800003] 16, [.arr 1800003 (.pair (.int .i64) (.pair .str (.pair (.int .i64) (.pair (.int .i64) .unit))))]⟩
def pb18_3 : SP := ⟨us [.u, .u, .v (.list (.pair (.int .i64) (.pair .str (.pair (.int .i64) (.pair (.int .i64) .unit)))))] 17, []⟩
def st18_3 {γ : Type} (rec : (List (List UInt8)) → Int → (List (Int × (List UInt8) × (Int × Int × Unit))) → Option γ) (kE : (List (Int × (List UInt8) × (Int × Int × Unit))) → Option γ) (kR : (List (Int × (List UInt8) × (Int × Int × Unit))) → Option γ) (v0 : List (List UInt8)) (v1 : Int) (v2 : List (Int × (List UInt8) × (Int × Int × Unit))) : Option γ :=
  bif (ltI v1 (lenI v0)) then
    bif (inI v0 v1) then
      bif (fitI (catL v2 [(6, ((getI v0 [] v1), (0, (0, ()))))]) 40) then
        rec v0 (addK .i64 v1 1) (catL v2 [(6, ((getI v0 [] v1), (0, (0, ()))))])
      else
      none
    else
    none
  else
  kE v2
def lp18_3 : Nat → (List (List UInt8)) → Int → (List (Int × (List UInt8) × (Int × Int × Unit))) → Option (pa18_3.den ⊕ pb18_3.den)
  | 0, _, _, _ => none
  | n + 1, v0, v1, v2 => st18_3 (lp18_3 n) (fun e0 => some (.inl ((), (e0, ())))) (fun r0 => some (.inr ((r0, ()), ()))) v0 v1 v2
noncomputable def ls18_3 : LoopSum := loopBy k18_3 p18_3 pa18_3 pb18_3 (.exit 0) (fun v => lp18_3 fuelN v.1.1 v.1.2.1 v.2.1) 6
def fn18 (x0 : List (List UInt8)) : Option ((List (Int × (List UInt8) × (Int × Int × Unit))) × Unit) :=
  obind (lp18_3 fuelN x0 0 []) fun y0 =>
    osum y0 (fun a1 =>
      some (a1.2.1, ())) (fun b1 =>
      some (b1.1.1, ()))
def sum18 : Sum := (⟨[.list .str], [(.list (.pair (.int .i64) (.pair .str (.pair (.int .i64) (.pair (.int .i64) .unit)))), false)], fun x => fn18 x.1⟩ : Sum)
noncomputable def env18 : Env := envOf Try.prog tt 18 [] [(3, k18_3)] [(3, ls18_3)]
theorem step18_3 {R : Type} (d : Nat) (n : Nat) (K : Ex → St → Option R) (v0 : List (List UInt8)) (v1 : Int) (v2 : List (Int × (List UInt8) × (Int × Int × Unit))) :
    iter (some k18_3) (runD env18 (d + 6) 18 c18_3) (n + 1) (mkSt p18_3 ((v0, v1, ()), (v2, ()))) K =
      st18_3 (fun v0 v1 v2 => iter (some k18_3) (runD env18 (d + 6) 18 c18_3) n (mkSt p18_3 ((v0, v1, ()), (v2, ()))) K) (fun e0 => K (.exit 0) (mkSt pa18_3 ((), (e0, ())))) (fun r0 => K .ret (mkSt pb18_3 ((r0, ()), ()))) v0 v1 v2 := by kernel_rfl
theorem it18_3 {R : Type} (d : Nat) (K : Ex → St → Option R) : ∀ (n : Nat) (v0 : List (List UInt8)) (v1 : Int) (v2 : List (Int × (List UInt8) × (Int × Int × Unit))),
    iter (some k18_3) (runD env18 (d + 6) 18 c18_3) n (mkSt p18_3 ((v0, v1, ()), (v2, ()))) K = obind (lp18_3 n v0 v1 v2) fun o => osum o (fun a => K (.exit 0) (mkSt pa18_3 a)) fun b => K .ret (mkSt pb18_3 b)
  | 0, _, _, _ => rfl
  | n + 1, v0, v1, v2 => by
    rw [step18_3]
    simp only [it18_3 d K n, lp18_3, st18_3, obind_cond, obind_none, obind_some, obind_obind, obind_osum]
    try simp only [osum]
theorem ok18_3 : LoopOk env18 18 c18_3 ls18_3 := loopBy_ok (by kernel_rfl) fun R d K v o h => ⟨fuelN, (it18_3 d K fuelN (v.1.1) (v.1.2.1) (v.2.1)).trans (congrArg (fun o => obind o _) h)⟩
theorem run18 (x0 : List (List UInt8)) : runF env18 18 [.list .str] [(.list (.pair (.int .i64) (.pair .str (.pair (.int .i64) (.pair (.int .i64) .unit)))), false)] (x0, ()) = fn18 x0 := by kernel_rfl
theorem lat18 : loopsAt b18 = [c18_3] := by kernel_rfl
theorem lok18 : loopsOk env18 18 b18 := loopsOk_at b18 (fun _ => rfl) (by rw [lat18]; exact (List.forall_mem_cons.2 ⟨(fun L h => by rw [show env18.lp 18 (firstRegion c18_3) = some ls18_3 by kernel_rfl] at h; cases h; exact ok18_3), (fun _ h => absurd h List.not_mem_nil)⟩))
theorem env18_ok : EnvOk env18 := envOf_ok tok mixed noGor (sg := []) (fun _ h => absurd h List.not_mem_nil) (fn := Try.f18) (c := b18) (by kernel_rfl) (by kernel_rfl) lok18 rf_ok chk_ok
theorem sum18_ok : SumOk Try.prog 18 sum18 := sum_of_run env18_ok (by decide) fun x y h => (run18 (x.1)).trans h

/-! ### quillwort/quillwortlaw12.simple -/
noncomputable def b21 : Code := (Try.f21.body).getD .skip
noncomputable def c21_3 : Code := cA (cA (cB (cA (cB (cB (b21))))))
def k21_3 : Keep := ⟨[0, 3, 4, 100003], [], [3], [], [2], [(2, (.pair (.int .i64) (.pair (.int .i64) (.pair (.int .i64) (.pair (.int .i64) .unit)))))]⟩
def p21_3 : SP := ⟨us [.v (.int .i64), .u, .u, .slc 1000015, .v (.int .i64)] 24, [.arr 1000015 (.pair (.int .i64) (.pair (.int .i64) (.pair (.int .i64) (.pair (.int .i64) .unit))))]⟩
def pa21_3 : SP := ⟨us [.u, .u, .u, .slc 1000015] 25, [.arr 1000015 (.pair (.int .i64) (.pair (.int .i64) (.pair (.int .i64) (.pair (.int .i64) .unit))))]⟩
def pb21_3 : SP := ⟨us [.u, .u, .v (.list (.pair (.int .i64) (.pair (.int .i64) (.pair (.int .i64) (.pair (.int .i64) .unit)))))] 26, []⟩
def st21_3 {γ : Type} (rec : Int → Int → (List (Int × Int × Int × Int × Unit)) → Option γ) (kE : (List (Int × Int × Int × Int × Unit)) → Option γ) (kR : (List (Int × Int × Int × Int × Unit)) → Option γ) (v0 : Int) (v1 : Int) (v2 : List (Int × Int × Int × Int × Unit)) : Option γ :=
  bif (ltI v1 v0) then
    bif (fitI (catL v2 [(7, (v1, ((addK .i64 v1 1), (4, ()))))]) 32) then
      rec v0 (addK .i64 v1 1) (catL v2 [(7, (v1, ((addK .i64 v1 1), (4, ()))))])
    else
    none
  else
  kE v2
def lp21_3 : Nat → Int → Int → (List (Int × Int × Int × Int × Unit)) → Option (pa21_3.den ⊕ pb21_3.den)
  | 0, _, _, _ => none
  | n + 1, v0, v1, v2 => st21_3 (lp21_3 n) (fun e0 => some (.inl ((), (e0, ())))) (fun r0 => some (.inr ((r0, ()), ()))) v0 v1 v2
noncomputable def ls21_3 : LoopSum := loopBy k21_3 p21_3 pa21_3 pb21_3 (.exit 0) (fun v => lp21_3 fuelN v.1.1 v.1.2.1 v.2.1) 6
def fn21 (x0 : Int) : Option ((List (Int × Int × Int × Int × Unit)) × Unit) :=
  obind (lp21_3 fuelN x0 0 [(1, (0, (x0, ((-1), ())))), (2, (0, (x0, (0, ())))), (3, (0, (x0, (1, ())))), (4, (0, (x0, (2, ())))), (5, (0, (x0, (3, ()))))]) fun y0 =>
    osum y0 (fun a1 =>
      some (a1.2.1, ())) (fun b1 =>
      some (b1.1.1, ()))
def sum21 : Sum := (⟨[.int .i64], [(.list (.pair (.int .i64) (.pair (.int .i64) (.pair (.int .i64) (.pair (.int .i64) .unit)))), false)], fun x => fn21 x.1⟩ : Sum)
noncomputable def env21 : Env := envOf Try.prog tt 21 [] [(3, k21_3)] [(3, ls21_3)]
theorem step21_3 {R : Type} (d : Nat) (n : Nat) (K : Ex → St → Option R) (v0 : Int) (v1 : Int) (v2 : List (Int × Int × Int × Int × Unit)) :
    iter (some k21_3) (runD env21 (d + 6) 21 c21_3) (n + 1) (mkSt p21_3 ((v0, v1, ()), (v2, ()))) K =
      st21_3 (fun v0 v1 v2 => iter (some k21_3) (runD env21 (d + 6) 21 c21_3) n (mkSt p21_3 ((v0, v1, ()), (v2, ()))) K) (fun e0 => K (.exit 0) (mkSt pa21_3 ((), (e0, ())))) (fun r0 => K .ret (mkSt pb21_3 ((r0, ()), ()))) v0 v1 v2 := by kernel_rfl
theorem it21_3 {R : Type} (d : Nat) (K : Ex → St → Option R) : ∀ (n : Nat) (v0 : Int) (v1 : Int) (v2 : List (Int × Int × Int × Int × Unit)),
    iter (some k21_3) (runD env21 (d + 6) 21 c21_3) n (mkSt p21_3 ((v0, v1, ()), (v2, ()))) K = obind (lp21_3 n v0 v1 v2) fun o => osum o (fun a => K (.exit 0) (mkSt pa21_3 a)) fun b => K .ret (mkSt pb21_3 b)
  | 0, _, _, _ => rfl
  | n + 1, v0, v1, v2 => by
    rw [step21_3]
    simp only [it21_3 d K n, lp21_3, st21_3, obind_cond, obind_none, obind_some, obind_obind, obind_osum]
    try simp only [osum]
theorem ok21_3 : LoopOk env21 21 c21_3 ls21_3 := loopBy_ok (by kernel_rfl) fun R d K v o h => ⟨fuelN, (it21_3 d K fuelN (v.1.1) (v.1.2.1) (v.2.1)).trans (congrArg (fun o => obind o _) h)⟩
theorem run21 (x0 : Int) : runF env21 21 [.int .i64] [(.list (.pair (.int .i64) (.pair (.int .i64) (.pair (.int .i64) (.pair (.int .i64) .unit)))), false)] (x0, ()) = fn21 x0 := by kernel_rfl
theorem lat21 : loopsAt b21 = [c21_3] := by kernel_rfl
theorem lok21 : loopsOk env21 21 b21 := loopsOk_at b21 (fun _ => rfl) (by rw [lat21]; exact (List.forall_mem_cons.2 ⟨(fun L h => by rw [show env21.lp 21 (firstRegion c21_3) = some ls21_3 by kernel_rfl] at h; cases h; exact ok21_3), (fun _ h => absurd h List.not_mem_nil)⟩))
theorem env21_ok : EnvOk env21 := envOf_ok tok mixed noGor (sg := []) (fun _ h => absurd h List.not_mem_nil) (fn := Try.f21) (c := b21) (by kernel_rfl) (by kernel_rfl) lok21 rf_ok chk_ok
theorem sum21_ok : SumOk Try.prog 21 sum21 := sum_of_run env21_ok (by decide) fun x y h => (run21 (x.1)).trans h

/-! ### quillwort/quillwortlaw12.RulesWords -/
def fn5 (x0 : List (List UInt8)) : Option (Bool × Unit) :=
  obind (fn18 x0) fun y0 =>
    obind (fn12 y0.1 20) fun y1 =>
      bif (!y1.1) then
        some (true, ())
      else
      bif (ltI 0 (lenI x0)) then
        bif (inI x0 0) then
          obind (fn19 (getI x0 [] 0)) fun y2 =>
            bif (!y2.1) then
              bif (inI x0 0) then
                obind (fn20 (getI x0 [] 0)) fun y3 =>
                  obind (fn21 (lenI x0)) fun y4 =>
                    obind (fn13 y0.1 y4.1) fun y5 =>
                      some ((eqB y5.1 (eqI y3.1 0)), ())
              else
              none
            else
            obind (fn21 (lenI x0)) fun y3 =>
              obind (fn13 y0.1 y3.1) fun y4 =>
                some ((eqB y4.1 false), ())
        else
        none
      else
      obind (fn21 (lenI x0)) fun y2 =>
        obind (fn13 y0.1 y2.1) fun y3 =>
          some ((eqB y3.1 false), ())
def sum5 : Sum := (⟨[.list .str], [(.bool, false)], fun x => fn5 x.1⟩ : Sum)
noncomputable def env5 : Env := envOf Try.prog tt 5 [(9, sumAwake), (12, sum12), (13, sum13), (18, sum18), (19, sum19), (20, sum20), (21, sum21)] [] []
theorem run5 (x0 : List (List UInt8)) : runF env5 5 [.list .str] [(.bool, false)] (x0, ()) = fn5 x0 := by kernel_rfl
theorem env5_ok : EnvOk env5 := envOf_ok tok mixed noGor (sg := [(9, sumAwake), (12, sum12), (13, sum13), (18, sum18), (19, sum19), (20, sum20), (21, sum21)]) (List.forall_mem_cons.2 ⟨(sumAwake_ok), (List.forall_mem_cons.2 ⟨(sum12_ok), (List.forall_mem_cons.2 ⟨(sum13_ok), (List.forall_mem_cons.2 ⟨(sum18_ok), (List.forall_mem_cons.2 ⟨(sum19_ok), (List.forall_mem_cons.2 ⟨(sum20_ok), (List.forall_mem_cons.2 ⟨(sum21_ok), (fun _ h => absurd h List.not_mem_nil)⟩)⟩)⟩)⟩)⟩)⟩)⟩) (fn := Try.f5) (c := (Try.f5.body).getD .skip) (by kernel_rfl) (by kernel_rfl) (loopsOk_none (fun _ => rfl) (fun _ => rfl) _) rf_ok chk_ok
theorem sum5_ok : SumOk Try.prog 5 sum5 := sum_of_run env5_ok (by decide) fun x y h => (run5 (x.1)).trans h

/-! ### quillwort/rules.Fits -/
def fn25 (x0 : List (Int × (List UInt8) × (Int × Int × Unit))) (x1 : List (Int × Int × Int × Int × Unit)) (x2 : Int) : Option (Bool × Unit) :=
  obind (fn29 x0 x1 x2) fun y0 =>
    bif y0.1 then
      obind (fn36 x0 x1 x2) fun y1 =>
        some (y1.1, ())
    else
    some (false, ())
def sum25 : Sum := (⟨[.list (.pair (.int .i64) (.pair .str (.pair (.int .i64) (.pair (.int .i64) .unit)))), .list (.pair (.int .i64) (.pair (.int .i64) (.pair (.int .i64) (.pair (.int .i64) .unit)))), .int .i64], [(.bool, false)], fun x => fn25 x.1 x.2.1 x.2.2.1⟩ : Sum)
noncomputable def env25 : Env := envOf Try.prog tt 25 [(29, sum29), (36, sum36)] [] []
theorem run25 (x0 : List (Int × (List UInt8) × (Int × Int × Unit))) (x1 : List (Int × Int × Int × Int × Unit)) (x2 : Int) : runF env25 25 [.list (.pair (.int .i64) (.pair .str (.pair (.int .i64) (.pair (.int .i64) .unit)))), .list (.pair (.int .i64) (.pair (.int .i64) (.pair (.int .i64) (.pair (.int .i64) .unit)))), .int .i64] [(.bool, false)] (x0, x1, x2, ()) = fn25 x0 x1 x2 := by kernel_rfl
theorem env25_ok : EnvOk env25 := envOf_ok tok mixed noGor (sg := [(29, sum29), (36, sum36)]) (List.forall_mem_cons.2 ⟨(sum29_ok), (List.forall_mem_cons.2 ⟨(sum36_ok), (fun _ h => absurd h List.not_mem_nil)⟩)⟩) (fn := Try.f25) (c := (Try.f25.body).getD .skip) (by kernel_rfl) (by kernel_rfl) (loopsOk_none (fun _ => rfl) (fun _ => rfl) _) rf_ok chk_ok
theorem sum25_ok : SumOk Try.prog 25 sum25 := sum_of_run env25_ok (by decide) fun x y h => (run25 (x.1) (x.2.1) (x.2.2.1)).trans h

/-! ### quillwort/quillwortlaw12.RulesForms -/
noncomputable def b8 : Code := (Try.f8.body).getD .skip
noncomputable def c8_7 : Code := cA (cA (cB (cA (cB (cB (cB (cB (b8))))))))
def k8_7 : Keep := ⟨[1, 2, 7, 8, 100007], [], [1, 7], [], [6], []⟩
def p8_7 : SP := ⟨us [.u, .v (.list (.pair (.int .i64) (.pair .str (.pair (.int .i64) (.pair (.int .i64) .unit))))), .v (.list (.int .i64)), .u, .u, .u, .u, .slc 1000036, .v (.int .i64)] 64, [.arr 1000036 (.pair (.int .i64) (.pair (.int .i64) (.pair (.int .i64) (.pair (.int .i64) .unit))))]⟩
def pa8_7 : SP := ⟨us [.u, .v (.list (.pair (.int .i64) (.pair .str (.pair (.int .i64) (.pair (.int .i64) .unit))))), .u, .u, .u, .u, .u, .slc 1000036] 65, [.arr 1000036 (.pair (.int .i64) (.pair (.int .i64) (.pair (.int .i64) (.pair (.int .i64) .unit))))]⟩
def pb8_7 : SP := ⟨us [.u, .u, .u, .u, .u, .u, .v .bool] 66, []⟩
def st8_7 {γ : Type} (rec : (List (Int × (List UInt8) × (Int × Int × Unit))) → (List (Int)) → Int → (List (Int × Int × Int × Int × Unit)) → Option γ) (kE : (List (Int × (List UInt8) × (Int × Int × Unit))) → (List (Int × Int × Int × Int × Unit)) → Option γ) (kR : Bool → Option γ) (v0 : List (Int × (List UInt8) × (Int × Int × Unit))) (v1 : List (Int)) (v2 : Int) (v3 : List (Int × Int × Int × Int × Unit)) : Option γ :=
  bif (ltI v2 (lenI v1)) then
    bif (inI v1 v2) then
      bif (leI 1 (getI v1 0 v2)) then
        bif (inI v1 v2) then
          bif (leI (getI v1 0 v2) 18) then
            bif (inI v1 v2) then
              bif (fitI (catL v3 [((getI v1 0 v2), (v2, ((addK .i64 v2 1), (1, ()))))]) 32) then
                rec v0 v1 (addK .i64 v2 1) (catL v3 [((getI v1 0 v2), (v2, ((addK .i64 v2 1), (1, ()))))])
              else
              none
            else
            none
          else
          rec v0 v1 (addK .i64 v2 1) v3
        else
        none
      else
      rec v0 v1 (addK .i64 v2 1) v3
    else
    none
  else
  kE v0 v3
def lp8_7 : Nat → (List (Int × (List UInt8) × (Int × Int × Unit))) → (List (Int)) → Int → (List (Int × Int × Int × Int × Unit)) → Option (pa8_7.den ⊕ pb8_7.den)
  | 0, _, _, _, _ => none
  | n + 1, v0, v1, v2, v3 => st8_7 (lp8_7 n) (fun e0 e1 => some (.inl ((e0, ()), (e1, ())))) (fun r0 => some (.inr ((r0, ()), ()))) v0 v1 v2 v3
noncomputable def ls8_7 : LoopSum := loopBy k8_7 p8_7 pa8_7 pb8_7 (.exit 0) (fun v => lp8_7 fuelN v.1.1 v.1.2.1 v.1.2.2.1 v.2.1) 6
def fn8 (x0 : Int) (x1 : List (Int × (List UInt8) × (Int × Int × Unit))) (x2 : List (Int)) : Option (Bool × Unit) :=
  obind (fn12 x1 24) fun y0 =>
    bif (!y0.1) then
      some (true, ())
    else
    bif (ltI (lenI x1) (lenI x2)) then
      some (true, ())
    else
    bif (ltI x0 1) then
      some (true, ())
    else
    bif (ltI 18 x0) then
      some (true, ())
    else
    obind (lp8_7 fuelN x1 x2 0 [(1, (0, ((lenI x1), ((-1), ())))), (x0, (0, ((lenI x1), (0, ()))))]) fun y1 =>
      osum y1 (fun a2 =>
        obind (fn25 a2.1.1 a2.2.1 1) fun y3 =>
          obind (fn16 a2.1.1 a2.2.1 1) fun y4 =>
            some ((eqB y3.1 y4.1), ())) (fun b2 =>
        some (b2.1.1, ()))
def sum8 : Sum := (⟨[.int .i64, .list (.pair (.int .i64) (.pair .str (.pair (.int .i64) (.pair (.int .i64) .unit)))), .list (.int .i64)], [(.bool, false)], fun x => fn8 x.1 x.2.1 x.2.2.1⟩ : Sum)
noncomputable def env8 : Env := envOf Try.prog tt 8 [(9, sumAwake), (12, sum12), (16, sum16), (25, sum25)] [(7, k8_7)] [(7, ls8_7)]
theorem step8_7 {R : Type} (d : Nat) (n : Nat) (K : Ex → St → Option R) (v0 : List (Int × (List UInt8) × (Int × Int × Unit))) (v1 : List (Int)) (v2 : Int) (v3 : List (Int × Int × Int × Int × Unit)) :
    iter (some k8_7) (runD env8 (d + 6) 8 c8_7) (n + 1) (mkSt p8_7 ((v0, v1, v2, ()), (v3, ()))) K =
      st8_7 (fun v0 v1 v2 v3 => iter (some k8_7) (runD env8 (d + 6) 8 c8_7) n (mkSt p8_7 ((v0, v1, v2, ()), (v3, ()))) K) (fun e0 e1 => K (.exit 0) (mkSt pa8_7 ((e0, ()), (e1, ())))) (fun r0 => K .ret (mkSt pb8_7 ((r0, ()), ()))) v0 v1 v2 v3 := by kernel_rfl
theorem it8_7 {R : Type} (d : Nat) (K : Ex → St → Option R) : ∀ (n : Nat) (v0 : List (Int × (List UInt8) × (Int × Int × Unit))) (v1 : List (Int)) (v2 : Int) (v3 : List (Int × Int × Int × Int × Unit)),
    iter (some k8_7) (runD env8 (d + 6) 8 c8_7) n (mkSt p8_7 ((v0, v1, v2, ()), (v3, ()))) K = obind (lp8_7 n v0 v1 v2 v3) fun o => osum o (fun a => K (.exit 0) (mkSt pa8_7 a)) fun b => K .ret (mkSt pb8_7 b)
  | 0, _, _, _, _ => rfl
  | n + 1, v0, v1, v2, v3 => by
    rw [step8_7]
    simp only [it8_7 d K n, lp8_7, st8_7, obind_cond, obind_none, obind_some, obind_obind, obind_osum]
    try simp only [osum]
theorem ok8_7 : LoopOk env8 8 c8_7 ls8_7 := loopBy_ok (by kernel_rfl) fun R d K v o h => ⟨fuelN, (it8_7 d K fuelN (v.1.1) (v.1.2.1) (v.1.2.2.1) (v.2.1)).trans (congrArg (fun o => obind o _) h)⟩
theorem run8 (x0 : Int) (x1 : List (Int × (List UInt8) × (Int × Int × Unit))) (x2 : List (Int)) : runF env8 8 [.int .i64, .list (.pair (.int .i64) (.pair .str (.pair (.int .i64) (.pair (.int .i64) .unit)))), .list (.int .i64)] [(.bool, false)] (x0, x1, x2, ()) = fn8 x0 x1 x2 := by kernel_rfl
theorem lat8 : loopsAt b8 = [c8_7] := by kernel_rfl
theorem lok8 : loopsOk env8 8 b8 := loopsOk_at b8 (fun _ => rfl) (by rw [lat8]; exact (List.forall_mem_cons.2 ⟨(fun L h => by rw [show env8.lp 8 (firstRegion c8_7) = some ls8_7 by kernel_rfl] at h; cases h; exact ok8_7), (fun _ h => absurd h List.not_mem_nil)⟩))
theorem env8_ok : EnvOk env8 := envOf_ok tok mixed noGor (sg := [(9, sumAwake), (12, sum12), (16, sum16), (25, sum25)]) (List.forall_mem_cons.2 ⟨(sumAwake_ok), (List.forall_mem_cons.2 ⟨(sum12_ok), (List.forall_mem_cons.2 ⟨(sum16_ok), (List.forall_mem_cons.2 ⟨(sum25_ok), (fun _ h => absurd h List.not_mem_nil)⟩)⟩)⟩)⟩) (fn := Try.f8) (c := b8) (by kernel_rfl) (by kernel_rfl) lok8 rf_ok chk_ok
theorem sum8_ok : SumOk Try.prog 8 sum8 := sum_of_run env8_ok (by decide) fun x y h => (run8 (x.1) (x.2.1) (x.2.2.1)).trans h

end Go.Proofs.Ytkloefipjbeneaa
