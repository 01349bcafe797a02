/-
  The plain functions of some functions of the program, and that they are computed.
-/
import Derived.Test.YtnmaceljkegenaaDoorEb
import Derived.Test.YtnmaceljkegenaaDoorKa
import Derived.Test.YtnmaceljkegenaaDoorBf
namespace Go.Proofs.YtnmaceljkegenaaDoor
open Go.RowKit
set_option linter.unusedVariables false
set_option linter.unusedSimpArgs false
set_option maxRecDepth 100000
set_option maxHeartbeats 4000000

/-! ### quillwort/tree.fits -/
def fn17 (x0 : Int × Int × Int × Int × Unit) : Option (Bool × Unit) :=
  bif (leI 1 x0.1) then
    bif (leI x0.1 18) then
      some ((leI x0.2.1 x0.2.2.1), ())
    else
    some (false, ())
  else
  some (false, ())
def sum17 : Sum := (⟨[.pair (.int .i64) (.pair (.int .i64) (.pair (.int .i64) (.pair (.int .i64) .unit)))], [(.bool, false)], fun x => fn17 x.1⟩ : Sum)
noncomputable def env17 : Env := envOf Tryd.prog tt 17 [] [] []
theorem env17_ok : EnvOk env17 := envOf_ok tok mixed noGor (sg := []) aN (fn := Tryd.f17) (c := (Tryd.f17.body).getD .skip) (by kernel_rfl) (by kernel_rfl) (loopsOk_none (fun _ => rfl) (fun _ => rfl) _) rf_ok chk_ok
theorem sum17_ok : SumOk Tryd.prog 17 sum17 := sumR env17_ok (by decide) fun x => by kernel_rfl

/-! ### quillwort/tree.Check -/
noncomputable def b10 : Code := (Tryd.f10.body).getD .skip
noncomputable def c10_9 : Code := cA (cA (cA (cB (cA (cA (cB (cA (cA (cB (cA (cB (cB (cB (cB (b10)))))))))))))))
noncomputable def c10_6 : Code := cA (cA (cB (cA (cB (cB (cB (cB (b10))))))))
def k10_9 : Keep := ⟨[0, 5, 6, 7, 8, 100009], [(5, (.int .i64))], [0, 5, 6, 7, 8], [], [4], []⟩
def k10_6 : Keep := ⟨[0, 5, 6, 7, 100006], [], [], [], [4], []⟩
def p10_9 : SP := ⟨us [.v (.list (.pair (.int .i64) (.pair (.int .i64) (.pair (.int .i64) (.pair (.int .i64) .unit))))), .u, .u, .u, .u, .slc 1000041, .slc 1000044, .v (.int .i64), .ptr 1000008 0] 111, [.box 1000008 27 [.v (.int .i64), .v (.int .i64), .v (.int .i64), .v (.int .i64)], .arr 1000044 (.int .i64), .arr 1000041 (.int .i64)]⟩
def pa10_9 : SP := ⟨us [.v (.list (.pair (.int .i64) (.pair (.int .i64) (.pair (.int .i64) (.pair (.int .i64) .unit))))), .u, .u, .u, .u, .slc 1000041, .slc 1000044, .v (.int .i64), .ptr 1000008 0] 111, [.box 1000008 27 [.v (.int .i64), .v (.int .i64), .v (.int .i64), .v (.int .i64)], .arr 1000044 (.int .i64), .arr 1000041 (.int .i64)]⟩
def pb10_9 : SP := ⟨us [.u, .u, .u, .u, .v .bool] 115, []⟩
def st10_9 {γ : Type} (rec : (List (Int × Int × Int × Int × Unit)) → Int → Int → Int → Int → Int → (List (Int)) → (List (Int)) → Option γ) (kE : (List (Int × Int × Int × Int × Unit)) → Int → Int → Int → Int → Int → (List (Int)) → (List (Int)) → Option γ) (kR : Bool → Option γ) (v0 : List (Int × Int × Int × Int × Unit)) (v1 : Int) (v2 : Int) (v3 : Int) (v4 : Int) (v5 : Int) (v6 : List (Int)) (v7 : List (Int)) : Option γ :=
  bif (ltI 0 (lenI v7)) then
    bif (inI v7 (subK .i64 (lenI v7) 1)) then
      bif (ltL (natI (subK .i64 (lenI v7) 1)) v7) then
        bif (!(eqI (nthN v7 0 (natI (subK .i64 (lenI v7) 1))) v5)) then
          bif (partI (lenI v7) 0 (subK .i64 (lenI v7) 1)) then
            rec v0 v1 v2 v3 v4 v5 v6 (takeN v7 (natI (subK .i64 (lenI v7) 1)))
          else
          none
        else
        kE v0 v1 v2 v3 v4 v5 v6 v7
      else
      none
    else
    none
  else
  kE v0 v1 v2 v3 v4 v5 v6 v7
def lp10_9 : Nat → (List (Int × Int × Int × Int × Unit)) → Int → Int → Int → Int → Int → (List (Int)) → (List (Int)) → Option (pa10_9.den ⊕ pb10_9.den)
  | 0, _, _, _, _, _, _, _, _ => none
  | n + 1, v0, v1, v2, v3, v4, v5, v6, v7 => st10_9 (lp10_9 n) (fun e0 e1 e2 e3 e4 e5 e6 e7 => some (.inl ((e0, e1, ()), ((e2, e3, e4, e5, ()), e6, e7, ())))) (fun r0 => some (.inr ((r0, ()), ()))) v0 v1 v2 v3 v4 v5 v6 v7
noncomputable def ls10_9 : LoopSum := loopBy k10_9 p10_9 pa10_9 pb10_9 (.exit 2) (fun v => lp10_9 fuelN v.1.1 v.1.2.1 v.2.1.1 v.2.1.2.1 v.2.1.2.2.1 v.2.1.2.2.2.1 v.2.2.1 v.2.2.2.1) 6
def p10_6 : SP := ⟨us [.v (.list (.pair (.int .i64) (.pair (.int .i64) (.pair (.int .i64) (.pair (.int .i64) .unit))))), .u, .u, .u, .u, .slc 1000041, .slc 1000044, .v (.int .i64)] 112, [.arr 1000044 (.int .i64), .arr 1000041 (.int .i64)]⟩
def pa10_6 : SP := ⟨us [] 120, []⟩
def pb10_6 : SP := ⟨us [.u, .u, .u, .u, .v .bool] 115, []⟩
def st10_6 {γ : Type} (rec : (List (Int × Int × Int × Int × Unit)) → Int → (List (Int)) → (List (Int)) → Option γ) (kE : Option γ) (kR : Bool → Option γ) (v0 : List (Int × Int × Int × Int × Unit)) (v1 : Int) (v2 : List (Int)) (v3 : List (Int)) : Option γ :=
  bif (ltI v1 (lenI v0)) then
    bif (inI v0 v1) then
      obind (lp10_9 fuelN v0 v1 (getI v0 (0, (0, (0, (0, ())))) v1).1 (getI v0 (0, (0, (0, (0, ())))) v1).2.1 (getI v0 (0, (0, (0, (0, ())))) v1).2.2.1 (getI v0 (0, (0, (0, (0, ())))) v1).2.2.2.1 v2 v3) fun y0 =>
        osum y0 (fun a1 =>
          bif (eqI (lenI a1.2.2.2.1) 0) then
            kR false
          else
          obind (fn17 (a1.2.1.1, (a1.2.1.2.1, (a1.2.1.2.2.1, (a1.2.1.2.2.2.1, ()))))) fun y2 =>
            bif (!y2.1) then
              kR false
            else
            bif (inI a1.1.1 a1.2.1.2.2.2.1) then
              bif (inI a1.2.2.1 a1.2.1.2.2.2.1) then
                bif (ltL (natI a1.2.1.2.2.2.1) a1.2.2.1) then
                  bif (ltI a1.2.1.2.1 (maxI (getI a1.1.1 (0, (0, (0, (0, ())))) a1.2.1.2.2.2.1).2.1 (nthN a1.2.2.1 0 (natI a1.2.1.2.2.2.1)))) then
                    kR false
                  else
                  bif (inI a1.1.1 a1.2.1.2.2.2.1) then
                    bif (ltI (getI a1.1.1 (0, (0, (0, (0, ())))) a1.2.1.2.2.2.1).2.2.1 a1.2.1.2.2.1) then
                      kR false
                    else
                    bif (inI a1.2.2.1 a1.2.1.2.2.2.1) then
                      bif (ltL (natI a1.2.1.2.2.2.1) a1.2.2.1) then
                        bif (fitI (catL a1.2.2.2.1 [a1.1.2.1]) 8) then
                          rec a1.1.1 (addK .i64 a1.1.2.1 1) (setI a1.2.2.1 (natI a1.2.1.2.2.2.1) a1.2.1.2.2.1) (catL a1.2.2.2.1 [a1.1.2.1])
                        else
                        none
                      else
                      none
                    else
                    none
                  else
                  none
                else
                none
              else
              none
            else
            none) (fun b1 =>
          kR b1.1.1)
    else
    none
  else
  kE 
def lp10_6 : Nat → (List (Int × Int × Int × Int × Unit)) → Int → (List (Int)) → (List (Int)) → Option (pa10_6.den ⊕ pb10_6.den)
  | 0, _, _, _, _ => none
  | n + 1, v0, v1, v2, v3 => st10_6 (lp10_6 n) (some (.inl ((), ()))) (fun r0 => some (.inr ((r0, ()), ()))) v0 v1 v2 v3
noncomputable def ls10_6 : LoopSum := loopBy k10_6 p10_6 pa10_6 pb10_6 (.exit 0) (fun v => lp10_6 fuelN v.1.1 v.1.2.1 v.2.1 v.2.2.1) 12
def fn10 (x0 : List (Int × Int × Int × Int × Unit)) (x1 : Int) : Option (Bool × Unit) :=
  bif (eqI (lenI x0) 0) then
    some (false, ())
  else
  bif (inI x0 0) then
    bif (!(eqI (getI x0 (0, (0, (0, (0, ())))) 0).2.2.2.1 (-1))) then
      some (false, ())
    else
    bif (inI x0 0) then
      bif (!(eqI (getI x0 (0, (0, (0, (0, ())))) 0).2.1 0)) then
        some (false, ())
      else
      bif (inI x0 0) then
        bif (!(eqI (getI x0 (0, (0, (0, (0, ())))) 0).2.2.1 x1)) then
          some (false, ())
        else
        bif (inI x0 0) then
          obind (fn17 (getI x0 (0, (0, (0, (0, ())))) 0)) fun y0 =>
            bif (!y0.1) then
              some (false, ())
            else
            bif ((leI 0 (lenI x0)) && ((leI (lenI x0) (lenI x0)) && (roomC (lenI x0) 8))) then
              obind (lp10_6 fuelN x0 1 (repN (natI (lenI x0)) 0) [0]) fun y1 =>
                osum y1 (fun a2 =>
                  some (true, ())) (fun b2 =>
                  some (b2.1.1, ()))
            else
            none
        else
        none
      else
      none
    else
    none
  else
  none
def sum10 : Sum := (⟨[.list (.pair (.int .i64) (.pair (.int .i64) (.pair (.int .i64) (.pair (.int .i64) .unit)))), .int .i64], [(.bool, false)], fun x => fn10 x.1 x.2.1⟩ : Sum)
noncomputable def env10 : Env := envOf Tryd.prog tt 10 [(17, sum17)] [(9, k10_9), (6, k10_6)] [(9, ls10_9), (6, ls10_6)]
def sT10_9 {γ : Type} (a : p10_9.den → Option γ) (b : pa10_9.den → Option γ) (c : pb10_9.den → Option γ) (v : p10_9.den) : Option γ := st10_9 (fun v0 v1 v2 v3 v4 v5 v6 v7 => a ((v0, v1, ()), ((v2, v3, v4, v5, ()), v6, v7, ()))) (fun e0 e1 e2 e3 e4 e5 e6 e7 => b ((e0, e1, ()), ((e2, e3, e4, e5, ()), e6, e7, ()))) (fun r0 => c ((r0, ()), ())) v.1.1 v.1.2.1 v.2.1.1 v.2.1.2.1 v.2.1.2.2.1 v.2.1.2.2.2.1 v.2.2.1 v.2.2.2.1
theorem ok10_9 : LoopOk env10 10 c10_9 ls10_9 := lpS (sT10_9) (lp := fun n (v : p10_9.den) => lp10_9 n v.1.1 v.1.2.1 v.2.1.1 v.2.1.2.1 v.2.1.2.2.1 v.2.1.2.2.2.1 v.2.2.1 v.2.2.2.1) (by kernel_rfl) (fun _ => rfl) (fun _ _ => rfl) (fun d n K v => by kernel_rfl) (by intros; simp only [sT10_9, st10_9, obind_cond, obind_none, obind_some, obind_obind, obind_osum])
def sT10_6 {γ : Type} (a : p10_6.den → Option γ) (b : pa10_6.den → Option γ) (c : pb10_6.den → Option γ) (v : p10_6.den) : Option γ := st10_6 (fun v0 v1 v2 v3 => a ((v0, v1, ()), (v2, v3, ()))) (b ((), ())) (fun r0 => c ((r0, ()), ())) v.1.1 v.1.2.1 v.2.1 v.2.2.1
theorem ok10_6 : LoopOk env10 10 c10_6 ls10_6 := lpS (sT10_6) (lp := fun n (v : p10_6.den) => lp10_6 n v.1.1 v.1.2.1 v.2.1 v.2.2.1) (by kernel_rfl) (fun _ => rfl) (fun _ _ => rfl) (fun d n K v => by kernel_rfl) (by intros; simp only [sT10_6, st10_6, obind_cond, obind_none, obind_some, obind_obind, obind_osum])
theorem lat10 : loopsAt b10 = [c10_9, c10_6] := by kernel_rfl
theorem lok10 : loopsOk env10 10 b10 := loopsOk_at b10 (fun _ => rfl) (by rw [lat10]; exact (aC ⟨fL (by kernel_rfl) (ok10_9), (aC ⟨fL (by kernel_rfl) (ok10_6), aN⟩)⟩))
theorem env10_ok : EnvOk env10 := envOf_ok tok mixed noGor (sg := [(17, sum17)]) (aC ⟨(sum17_ok), aN⟩) (fn := Tryd.f10) (c := b10) (by kernel_rfl) (by kernel_rfl) (lok10) rf_ok chk_ok
theorem sum10_ok : SumOk Tryd.prog 10 sum10 := sumR env10_ok (by decide) fun x => by kernel_rfl

/-! ### quillwort/tree.Show -/
noncomputable def b5 : Code := (Tryd.f5.body).getD .skip
noncomputable def c5_10 : Code := cA (cA (cA (cB (cB (cA (cA (cB (cB (cA (cA (cB (cA (cB (cB (cB (cB (b5)))))))))))))))))
noncomputable def c5_6 : Code := cA (cA (cB (cA (cB (cB (cB (cB (b5))))))))
noncomputable def c5_19 : Code := cA (cA (cB (cA (cB (cB (cB (cB (cB (b5)))))))))
def k5_10 : Keep := ⟨[3, 4, 5, 6, 20, 21, 22, 100010], [(4, (.int .i64))], [3, 4, 5, 6, 20, 21, 22], [], [2], []⟩
def k5_6 : Keep := ⟨[3, 4, 20, 21, 22, 100006], [], [3, 4], [], [2], []⟩
def k5_19 : Keep := ⟨[3, 76, 77, 100019], [], [3], [], [2], []⟩
def kc5_9 : Keep := ⟨[3, 4, 5, 6, 20, 21, 22], [], [], [], [], []⟩
def kc5_13 : Keep := ⟨[3, 4, 5, 6, 20, 21, 22], [], [], [], [], []⟩
def kc5_14 : Keep := ⟨[3, 4, 5, 6, 20, 21, 22], [], [], [], [], []⟩
def kc5_15 : Keep := ⟨[3, 4, 5, 6, 20, 21, 22], [], [], [], [], []⟩
def kc5_20 : Keep := ⟨[3, 76, 77], [], [], [], [], []⟩
def kc5_22 : Keep := ⟨[3], [], [], [], [], []⟩
def kc5_11_1 : Keep := ⟨[0, 1], [], [], [], [], []⟩
def kc5_12_1 : Keep := ⟨[0, 3], [], [], [], [], []⟩
def kc5_12_2 : Keep := ⟨[0, 3], [], [], [], [], []⟩
def kc5_12_3 : Keep := ⟨[0, 3], [], [], [], [], []⟩
def kc5_12_4 : Keep := ⟨[0, 3], [], [], [], [], []⟩
def kc5_19_1 : Keep := ⟨[0, 1], [], [], [], [], []⟩
def p5_10 : SP := ⟨us [.u, .u, .u, .ptr 1000003 0, .slc 1000019, .v (.int .i64), .ptr 1000006 0, .u, .u, .u, .u, .u, .u, .u, .u, .u, .u, .u, .u, .u, .v (.list (.pair (.int .i64) (.pair (.int .i64) (.pair (.int .i64) (.pair (.int .i64) .unit))))), .v (.int .i64), .v (.int .i64)] 59, [.box 1000006 27 [.v (.int .i64), .v (.int .i64), .v (.int .i64), .v (.int .i64)], .arr 1000019 (.int .i64), .box 1000003 37 [.slf 1000003, .slc 1500003], .arr 1500003 (.int .u8)]⟩
def pa5_10 : SP := ⟨us [.u, .u, .u, .ptr 1000003 0, .slc 1000019, .v (.int .i64), .ptr 1000006 0, .u, .u, .u, .u, .u, .u, .u, .u, .u, .u, .u, .u, .u, .v (.list (.pair (.int .i64) (.pair (.int .i64) (.pair (.int .i64) (.pair (.int .i64) .unit))))), .v (.int .i64), .v (.int .i64)] 59, [.box 1000006 27 [.v (.int .i64), .v (.int .i64), .v (.int .i64), .v (.int .i64)], .arr 1000019 (.int .i64), .box 1000003 37 [.slf 1000003, .slc 1500003], .arr 1500003 (.int .u8)]⟩
def pb5_10 : SP := ⟨us [.u, .u, .v .str] 79, []⟩
def st5_10 {γ : Type} (rec : Int → (List (Int × Int × Int × Int × Unit)) → Int → Int → Int → Int → Int → Int → (List (Int)) → (List (Int)) → Option γ) (kE : Int → (List (Int × Int × Int × Int × Unit)) → Int → Int → Int → Int → Int → Int → (List (Int)) → (List (Int)) → Option γ) (kR : (List UInt8) → Option γ) (v0 : Int) (v1 : List (Int × Int × Int × Int × Unit)) (v2 : Int) (v3 : Int) (v4 : Int) (v5 : Int) (v6 : Int) (v7 : Int) (v8 : List (Int)) (v9 : List (Int)) : Option γ :=
  bif (ltI 0 (lenI v8)) then
    bif (inI v8 (subK .i64 (lenI v8) 1)) then
      bif (ltL (natI (subK .i64 (lenI v8) 1)) v8) then
        bif (!(eqI (nthN v8 0 (natI (subK .i64 (lenI v8) 1))) v7)) then
          bif (partI (lenI v8) 0 (subK .i64 (lenI v8) 1)) then
            bif ((leI 0 (subK .i64 (subZ (subK .i64 (lenI v8) 1) 0) 1)) && (ltI (addZ 0 (subK .i64 (subZ (subK .i64 (lenI v8) 1) 0) 1)) (subK .i64 (lenI v8) 1))) then
              bif (ltL (natI (addZ 0 (subK .i64 (subZ (subK .i64 (lenI v8) 1) 0) 1))) v8) then
                bif (!(eqI (nthN v8 0 (natI (addZ 0 (subK .i64 (subZ (subK .i64 (lenI v8) 1) 0) 1)))) v7)) then
                  bif (fitI (catL v9 [41]) 1) then
                    rec v0 v1 v2 v3 v4 v5 v6 v7 (takeN v8 (natI (subK .i64 (lenI v8) 1))) (catL v9 [41])
                  else
                  none
                else
                bif (fitI (catL v9 [32]) 1) then
                  rec v0 v1 v2 v3 v4 v5 v6 v7 (takeN v8 (natI (subK .i64 (lenI v8) 1))) (catL v9 [32])
                else
                none
              else
              none
            else
            none
          else
          none
        else
        kE v0 v1 v2 v3 v4 v5 v6 v7 v8 v9
      else
      none
    else
    none
  else
  kE v0 v1 v2 v3 v4 v5 v6 v7 v8 v9
def lp5_10 : Nat → Int → (List (Int × Int × Int × Int × Unit)) → Int → Int → Int → Int → Int → Int → (List (Int)) → (List (Int)) → Option (pa5_10.den ⊕ pb5_10.den)
  | 0, _, _, _, _, _, _, _, _, _, _ => none
  | n + 1, v0, v1, v2, v3, v4, v5, v6, v7, v8, v9 => st5_10 (lp5_10 n) (fun e0 e1 e2 e3 e4 e5 e6 e7 e8 e9 => some (.inl ((e0, e1, e2, e3, ()), ((e4, e5, e6, e7, ()), e8, (), e9, ())))) (fun r0 => some (.inr ((r0, ()), ()))) v0 v1 v2 v3 v4 v5 v6 v7 v8 v9
noncomputable def ls5_10 : LoopSum := loopBy k5_10 p5_10 pa5_10 pb5_10 (.exit 2) (fun v => lp5_10 fuelN v.1.1 v.1.2.1 v.1.2.2.1 v.1.2.2.2.1 v.2.1.1 v.2.1.2.1 v.2.1.2.2.1 v.2.1.2.2.2.1 v.2.2.1 v.2.2.2.2.1) 6
def p5_6 : SP := ⟨us [.u, .u, .u, .ptr 1000003 0, .slc 1000019, .u, .u, .u, .u, .u, .u, .u, .u, .u, .u, .u, .u, .u, .u, .u, .v (.list (.pair (.int .i64) (.pair (.int .i64) (.pair (.int .i64) (.pair (.int .i64) .unit))))), .v (.int .i64), .v (.int .i64)] 59, [.arr 1000019 (.int .i64), .box 1000003 37 [.slf 1000003, .slc 1500003], .arr 1500003 (.int .u8)]⟩
def pa5_6 : SP := ⟨us [.u, .u, .u, .ptr 1000003 0, .slc 1000019] 77, [.arr 1000019 (.int .i64), .box 1000003 37 [.slf 1000003, .slc 1500003], .arr 1500003 (.int .u8)]⟩
def pb5_6 : SP := ⟨us [.u, .u, .v .str] 79, []⟩
def st5_6 {γ : Type} (rec : (List (Int × Int × Int × Int × Unit)) → Int → Int → (List (Int)) → (List (Int)) → Option γ) (kE : (List (Int)) → (List (Int)) → Option γ) (kR : (List UInt8) → Option γ) (v0 : List (Int × Int × Int × Int × Unit)) (v1 : Int) (v2 : Int) (v3 : List (Int)) (v4 : List (Int)) : Option γ :=
  bif (ltI v2 v1) then
    bif (inI v0 v2) then
      bif (ltI 0 v2) then
        bif (eqI (getI v0 (0, (0, (0, (0, ())))) v2).2.2.2.1 (subK .i64 v2 1)) then
          bif (fitI (catL v4 [40]) 1) then
            obind (lp5_10 fuelN v2 v0 v1 v2 (getI v0 (0, (0, (0, (0, ())))) v2).1 (getI v0 (0, (0, (0, (0, ())))) v2).2.1 (getI v0 (0, (0, (0, (0, ())))) v2).2.2.1 (getI v0 (0, (0, (0, (0, ())))) v2).2.2.2.1 v3 (catL v4 [40])) fun y0 =>
              osum y0 (fun a1 =>
                bif (inI [63, 80, 76, 65, 73, 83, 88, 87, 82, 66, 85, 70, 72, 79, 67, 84, 78, 69, 77] a1.2.1.1) then
                  bif (fitI (catL a1.2.2.2.2.1 [(byteAt [63, 80, 76, 65, 73, 83, 88, 87, 82, 66, 85, 70, 72, 79, 67, 84, 78, 69, 77] a1.2.1.1)]) 1) then
                    obind (itoaF a1.2.1.2.1) fun y2 =>
                      bif (fitI (catL (catL a1.2.2.2.2.1 [(byteAt [63, 80, 76, 65, 73, 83, 88, 87, 82, 66, 85, 70, 72, 79, 67, 84, 78, 69, 77] a1.2.1.1)]) (toBytes y2.1)) 1) then
                        bif (fitI (catL (catL (catL a1.2.2.2.2.1 [(byteAt [63, 80, 76, 65, 73, 83, 88, 87, 82, 66, 85, 70, 72, 79, 67, 84, 78, 69, 77] a1.2.1.1)]) (toBytes y2.1)) [45]) 1) then
                          obind (itoaF a1.2.1.2.2.1) fun y3 =>
                            bif (fitI (catL (catL (catL (catL a1.2.2.2.2.1 [(byteAt [63, 80, 76, 65, 73, 83, 88, 87, 82, 66, 85, 70, 72, 79, 67, 84, 78, 69, 77] a1.2.1.1)]) (toBytes y2.1)) [45]) (toBytes y3.1)) 1) then
                              bif (fitI (catL a1.2.2.1 [a1.1.1]) 8) then
                                rec a1.1.2.1 a1.1.2.2.1 (addK .i64 a1.1.2.2.2.1 1) (catL a1.2.2.1 [a1.1.1]) (catL (catL (catL (catL a1.2.2.2.2.1 [(byteAt [63, 80, 76, 65, 73, 83, 88, 87, 82, 66, 85, 70, 72, 79, 67, 84, 78, 69, 77] a1.2.1.1)]) (toBytes y2.1)) [45]) (toBytes y3.1))
                              else
                              none
                            else
                            none
                        else
                        none
                      else
                      none
                  else
                  none
                else
                none) (fun b1 =>
                kR b1.1.1)
          else
          none
        else
        obind (lp5_10 fuelN v2 v0 v1 v2 (getI v0 (0, (0, (0, (0, ())))) v2).1 (getI v0 (0, (0, (0, (0, ())))) v2).2.1 (getI v0 (0, (0, (0, (0, ())))) v2).2.2.1 (getI v0 (0, (0, (0, (0, ())))) v2).2.2.2.1 v3 v4) fun y0 =>
          osum y0 (fun a1 =>
            bif (inI [63, 80, 76, 65, 73, 83, 88, 87, 82, 66, 85, 70, 72, 79, 67, 84, 78, 69, 77] a1.2.1.1) then
              bif (fitI (catL a1.2.2.2.2.1 [(byteAt [63, 80, 76, 65, 73, 83, 88, 87, 82, 66, 85, 70, 72, 79, 67, 84, 78, 69, 77] a1.2.1.1)]) 1) then
                obind (itoaF a1.2.1.2.1) fun y2 =>
                  bif (fitI (catL (catL a1.2.2.2.2.1 [(byteAt [63, 80, 76, 65, 73, 83, 88, 87, 82, 66, 85, 70, 72, 79, 67, 84, 78, 69, 77] a1.2.1.1)]) (toBytes y2.1)) 1) then
                    bif (fitI (catL (catL (catL a1.2.2.2.2.1 [(byteAt [63, 80, 76, 65, 73, 83, 88, 87, 82, 66, 85, 70, 72, 79, 67, 84, 78, 69, 77] a1.2.1.1)]) (toBytes y2.1)) [45]) 1) then
                      obind (itoaF a1.2.1.2.2.1) fun y3 =>
                        bif (fitI (catL (catL (catL (catL a1.2.2.2.2.1 [(byteAt [63, 80, 76, 65, 73, 83, 88, 87, 82, 66, 85, 70, 72, 79, 67, 84, 78, 69, 77] a1.2.1.1)]) (toBytes y2.1)) [45]) (toBytes y3.1)) 1) then
                          bif (fitI (catL a1.2.2.1 [a1.1.1]) 8) then
                            rec a1.1.2.1 a1.1.2.2.1 (addK .i64 a1.1.2.2.2.1 1) (catL a1.2.2.1 [a1.1.1]) (catL (catL (catL (catL a1.2.2.2.2.1 [(byteAt [63, 80, 76, 65, 73, 83, 88, 87, 82, 66, 85, 70, 72, 79, 67, 84, 78, 69, 77] a1.2.1.1)]) (toBytes y2.1)) [45]) (toBytes y3.1))
                          else
                          none
                        else
                        none
                    else
                    none
                  else
                  none
              else
              none
            else
            none) (fun b1 =>
            kR b1.1.1)
      else
      obind (lp5_10 fuelN v2 v0 v1 v2 (getI v0 (0, (0, (0, (0, ())))) v2).1 (getI v0 (0, (0, (0, (0, ())))) v2).2.1 (getI v0 (0, (0, (0, (0, ())))) v2).2.2.1 (getI v0 (0, (0, (0, (0, ())))) v2).2.2.2.1 v3 v4) fun y0 =>
        osum y0 (fun a1 =>
          bif (inI [63, 80, 76, 65, 73, 83, 88, 87, 82, 66, 85, 70, 72, 79, 67, 84, 78, 69, 77] a1.2.1.1) then
            bif (fitI (catL a1.2.2.2.2.1 [(byteAt [63, 80, 76, 65, 73, 83, 88, 87, 82, 66, 85, 70, 72, 79, 67, 84, 78, 69, 77] a1.2.1.1)]) 1) then
              obind (itoaF a1.2.1.2.1) fun y2 =>
                bif (fitI (catL (catL a1.2.2.2.2.1 [(byteAt [63, 80, 76, 65, 73, 83, 88, 87, 82, 66, 85, 70, 72, 79, 67, 84, 78, 69, 77] a1.2.1.1)]) (toBytes y2.1)) 1) then
                  bif (fitI (catL (catL (catL a1.2.2.2.2.1 [(byteAt [63, 80, 76, 65, 73, 83, 88, 87, 82, 66, 85, 70, 72, 79, 67, 84, 78, 69, 77] a1.2.1.1)]) (toBytes y2.1)) [45]) 1) then
                    obind (itoaF a1.2.1.2.2.1) fun y3 =>
                      bif (fitI (catL (catL (catL (catL a1.2.2.2.2.1 [(byteAt [63, 80, 76, 65, 73, 83, 88, 87, 82, 66, 85, 70, 72, 79, 67, 84, 78, 69, 77] a1.2.1.1)]) (toBytes y2.1)) [45]) (toBytes y3.1)) 1) then
                        bif (fitI (catL a1.2.2.1 [a1.1.1]) 8) then
                          rec a1.1.2.1 a1.1.2.2.1 (addK .i64 a1.1.2.2.2.1 1) (catL a1.2.2.1 [a1.1.1]) (catL (catL (catL (catL a1.2.2.2.2.1 [(byteAt [63, 80, 76, 65, 73, 83, 88, 87, 82, 66, 85, 70, 72, 79, 67, 84, 78, 69, 77] a1.2.1.1)]) (toBytes y2.1)) [45]) (toBytes y3.1))
                        else
                        none
                      else
                      none
                  else
                  none
                else
                none
            else
            none
          else
          none) (fun b1 =>
          kR b1.1.1)
    else
    none
  else
  kE v3 v4
def lp5_6 : Nat → (List (Int × Int × Int × Int × Unit)) → Int → Int → (List (Int)) → (List (Int)) → Option (pa5_6.den ⊕ pb5_6.den)
  | 0, _, _, _, _, _ => none
  | n + 1, v0, v1, v2, v3, v4 => st5_6 (lp5_6 n) (fun e0 e1 => some (.inl ((), (e0, (), e1, ())))) (fun r0 => some (.inr ((r0, ()), ()))) v0 v1 v2 v3 v4
noncomputable def ls5_6 : LoopSum := loopBy k5_6 p5_6 pa5_6 pb5_6 (.exit 0) (fun v => lp5_6 fuelN v.1.1 v.1.2.1 v.1.2.2.1 v.2.1 v.2.2.2.1) 12
def p5_19 : SP := ⟨[.u, .u, .u, .ptr 1000003 0, .u, .u, .u, .u, .u, .u, .u, .u, .u, .u, .u, .u, .u, .u, .u, .u, .u, .u, .u, .u, .u, .u, .u, .u, .u, .u, .u, .u, .u, .u, .u, .u, .u, .u, .u, .u, .u, .u, .u, .u, .u, .u, .u, .u, .u, .u, .u, .u, .u, .u, .u, .u, .u, .u, .u, .u, .u, .u, .u, .u, .u, .u, .u, .u, .u, .u, .u, .u, .u, .u, .u, .u, .v (.int .i64), .v (.int .i64), .u, .u, .u, .u], [.box 1000003 37 [.slf 1000003, .slc 1500003], .arr 1500003 (.int .u8)]⟩
def pa5_19 : SP := ⟨us [.u, .u, .u, .ptr 1000003 0] 78, [.box 1000003 37 [.slf 1000003, .slc 1500003], .arr 1500003 (.int .u8)]⟩
def pb5_19 : SP := ⟨us [.u, .u, .v .str] 79, []⟩
def st5_19 {γ : Type} (rec : Int → Int → (List (Int)) → Option γ) (kE : (List (Int)) → Option γ) (kR : (List UInt8) → Option γ) (v0 : Int) (v1 : Int) (v2 : List (Int)) : Option γ :=
  bif (ltI v1 v0) then
    bif (fitI (catL v2 [41]) 1) then
      rec v0 (addK .i64 v1 1) (catL v2 [41])
    else
    none
  else
  kE v2
def lp5_19 : Nat → Int → Int → (List (Int)) → Option (pa5_19.den ⊕ pb5_19.den)
  | 0, _, _, _ => none
  | n + 1, v0, v1, v2 => st5_19 (lp5_19 n) (fun e0 => some (.inl ((), ((), e0, ())))) (fun r0 => some (.inr ((r0, ()), ()))) v0 v1 v2
noncomputable def ls5_19 : LoopSum := loopBy k5_19 p5_19 pa5_19 pb5_19 (.exit 4) (fun v => lp5_19 fuelN v.1.1 v.1.2.1 v.2.2.1) 18
def fn5 (x0 : List (Int × Int × Int × Int × Unit)) : Option ((List UInt8) × Unit) :=
  bif (eqI (lenI x0) 0) then
    some ([], ())
  else
  bif (inI x0 0) then
    obind (fn10 x0 (getI x0 (0, (0, (0, (0, ())))) 0).2.2.1) fun y0 =>
      bif (!y0.1) then
        some ([], ())
      else
      obind (lp5_6 fuelN x0 (lenI x0) 0 [] []) fun y1 =>
        osum y1 (fun a2 =>
          obind (lp5_19 fuelN (subK .i64 (lenI a2.2.1) 1) 0 a2.2.2.2.1) fun y3 =>
            osum y3 (fun a4 =>
              bif (eqI (lenI a4.2.2.1) (lenI a4.2.2.1)) then
                some ((ofBytes a4.2.2.1), ())
              else
              none) (fun b4 =>
              some (b4.1.1, ()))) (fun b2 =>
          some (b2.1.1, ()))
  else
  none
def sum5 : Sum := (⟨[.list (.pair (.int .i64) (.pair (.int .i64) (.pair (.int .i64) (.pair (.int .i64) .unit))))], [(.str, false)], fun x => fn5 x.1⟩ : Sum)
noncomputable def env5 : Env := envOf2 Tryd.prog tt [(10, sum10), (20, sumItoa)] [(5, 10, k5_10), (5, 6, k5_6), (5, 19, k5_19), (5, 600009, kc5_9), (5, 600013, kc5_13), (5, 600014, kc5_14), (5, 600015, kc5_15), (5, 600020, kc5_20), (5, 600022, kc5_22), (11, 600001, kc5_11_1), (12, 600001, kc5_12_1), (12, 600002, kc5_12_2), (12, 600003, kc5_12_3), (12, 600004, kc5_12_4), (19, 600001, kc5_19_1)] [(5, 10, ls5_10), (5, 6, ls5_6), (5, 19, ls5_19)] []
def sT5_10 {γ : Type} (a : p5_10.den → Option γ) (b : pa5_10.den → Option γ) (c : pb5_10.den → Option γ) (v : p5_10.den) : Option γ := st5_10 (fun v0 v1 v2 v3 v4 v5 v6 v7 v8 v9 => a ((v0, v1, v2, v3, ()), ((v4, v5, v6, v7, ()), v8, (), v9, ()))) (fun e0 e1 e2 e3 e4 e5 e6 e7 e8 e9 => b ((e0, e1, e2, e3, ()), ((e4, e5, e6, e7, ()), e8, (), e9, ()))) (fun r0 => c ((r0, ()), ())) v.1.1 v.1.2.1 v.1.2.2.1 v.1.2.2.2.1 v.2.1.1 v.2.1.2.1 v.2.1.2.2.1 v.2.1.2.2.2.1 v.2.2.1 v.2.2.2.2.1
theorem ok5_10 : LoopOk env5 5 c5_10 ls5_10 := lpS (sT5_10) (lp := fun n (v : p5_10.den) => lp5_10 n v.1.1 v.1.2.1 v.1.2.2.1 v.1.2.2.2.1 v.2.1.1 v.2.1.2.1 v.2.1.2.2.1 v.2.1.2.2.2.1 v.2.2.1 v.2.2.2.2.1) (by kernel_rfl) (fun _ => rfl) (fun _ _ => rfl) (fun d n K v => by kernel_rfl) (by intros; simp only [sT5_10, st5_10, obind_cond, obind_none, obind_some, obind_obind, obind_osum])
def sT5_6 {γ : Type} (a : p5_6.den → Option γ) (b : pa5_6.den → Option γ) (c : pb5_6.den → Option γ) (v : p5_6.den) : Option γ := st5_6 (fun v0 v1 v2 v3 v4 => a ((v0, v1, v2, ()), (v3, (), v4, ()))) (fun e0 e1 => b ((), (e0, (), e1, ()))) (fun r0 => c ((r0, ()), ())) v.1.1 v.1.2.1 v.1.2.2.1 v.2.1 v.2.2.2.1
theorem ok5_6 : LoopOk env5 5 c5_6 ls5_6 := lpS (sT5_6) (lp := fun n (v : p5_6.den) => lp5_6 n v.1.1 v.1.2.1 v.1.2.2.1 v.2.1 v.2.2.2.1) (by kernel_rfl) (fun _ => rfl) (fun _ _ => rfl) (fun d n K v => by kernel_rfl) (by intros; simp only [sT5_6, st5_6, obind_cond, obind_none, obind_some, obind_obind, obind_osum])
def sT5_19 {γ : Type} (a : p5_19.den → Option γ) (b : pa5_19.den → Option γ) (c : pb5_19.den → Option γ) (v : p5_19.den) : Option γ := st5_19 (fun v0 v1 v2 => a ((v0, v1, ()), ((), v2, ()))) (fun e0 => b ((), ((), e0, ()))) (fun r0 => c ((r0, ()), ())) v.1.1 v.1.2.1 v.2.2.1
theorem ok5_19 : LoopOk env5 5 c5_19 ls5_19 := lpS (sT5_19) (lp := fun n (v : p5_19.den) => lp5_19 n v.1.1 v.1.2.1 v.2.2.1) (by kernel_rfl) (fun _ => rfl) (fun _ _ => rfl) (fun d n K v => by kernel_rfl) (by intros; simp only [sT5_19, st5_19, obind_cond, obind_none, obind_some, obind_obind, obind_osum])
theorem lat5 : loopsAt b5 = [c5_10, c5_6, c5_19] := by kernel_rfl
theorem lok5 : loopsOk env5 5 b5 := loopsOk_at b5 (fun _ => rfl) (by rw [lat5]; exact (aC ⟨fL (by kernel_rfl) (ok5_10), (aC ⟨fL (by kernel_rfl) (ok5_6), (aC ⟨fL (by kernel_rfl) (ok5_19), aN⟩)⟩)⟩))
theorem env5_ok : EnvOk env5 := envOf2_ok tok mixed noGor (sg := [(10, sum10), (20, sumItoa)]) (aC ⟨(sum10_ok), (aC ⟨(sumItoa_ok), aN⟩)⟩) [5] (by kernel_rfl) (by kernel_rfl) (aC ⟨⟨Tryd.f5, b5, by kernel_rfl, by kernel_rfl, lok5⟩, aN⟩) rf_ok chk_ok
theorem sum5_ok : SumOk Tryd.prog 5 sum5 := sumR env5_ok (by decide) fun x => by kernel_rfl

/-! ### quillwort/quillwortref11.Above -/
noncomputable def b14 : Code := (Tryd.f14.body).getD .skip
noncomputable def c14_1 : Code := cA (cA (cA (cB (b14))))
def k14_1 : Keep := ⟨[0, 1, 2, 100001], [], [], [], [6], []⟩
def p14_1 : SP := ⟨us [.v (.list (.pair (.int .i64) (.pair (.int .i64) (.pair (.int .i64) (.pair (.int .i64) .unit))))), .v (.int .i64), .v (.int .i64)] 14, []⟩
def pa14_1 : SP := ⟨us [] 17, []⟩
def pb14_1 : SP := ⟨us [.u, .u, .u, .u, .u, .u, .v .bool] 10, []⟩
def st14_1 {γ : Type} (rec : (List (Int × Int × Int × Int × Unit)) → Int → Int → Option γ) (kE : Option γ) (kR : Bool → Option γ) (v0 : List (Int × Int × Int × Int × Unit)) (v1 : Int) (v2 : Int) : Option γ :=
  bif (leI 0 v2) then
    bif (eqI v1 v2) then
      kR true
    else
    bif (inI v0 v2) then
      rec v0 v1 (getI v0 (0, (0, (0, (0, ())))) v2).2.2.2.1
    else
    none
  else
  kE 
def lp14_1 : Nat → (List (Int × Int × Int × Int × Unit)) → Int → Int → Option (pa14_1.den ⊕ pb14_1.den)
  | 0, _, _, _ => none
  | n + 1, v0, v1, v2 => st14_1 (lp14_1 n) (some (.inl ((), ()))) (fun r0 => some (.inr ((r0, ()), ()))) v0 v1 v2
noncomputable def ls14_1 : LoopSum := loopBy k14_1 p14_1 pa14_1 pb14_1 (.exit 0) (fun v => lp14_1 fuelN v.1.1 v.1.2.1 v.1.2.2.1) 6
def fn14 (x0 : List (Int × Int × Int × Int × Unit)) (x1 : Int) (x2 : Int) : Option (Bool × Unit) :=
  obind (lp14_1 fuelN x0 x1 x2) fun y0 =>
    osum y0 (fun a1 =>
      some (false, ())) (fun b1 =>
      some (b1.1.1, ()))
def sum14 : Sum := (⟨[.list (.pair (.int .i64) (.pair (.int .i64) (.pair (.int .i64) (.pair (.int .i64) .unit)))), .int .i64, .int .i64], [(.bool, false)], fun x => fn14 x.1 x.2.1 x.2.2.1⟩ : Sum)
noncomputable def env14 : Env := envOf Tryd.prog tt 14 [] [(1, k14_1)] [(1, ls14_1)]
def sT14_1 {γ : Type} (a : p14_1.den → Option γ) (b : pa14_1.den → Option γ) (c : pb14_1.den → Option γ) (v : p14_1.den) : Option γ := st14_1 (fun v0 v1 v2 => a ((v0, v1, v2, ()), ())) (b ((), ())) (fun r0 => c ((r0, ()), ())) v.1.1 v.1.2.1 v.1.2.2.1
theorem ok14_1 : LoopOk env14 14 c14_1 ls14_1 := lpS (sT14_1) (lp := fun n (v : p14_1.den) => lp14_1 n v.1.1 v.1.2.1 v.1.2.2.1) (by kernel_rfl) (fun _ => rfl) (fun _ _ => rfl) (fun d n K v => by kernel_rfl) (by intros; simp only [sT14_1, st14_1, obind_cond, obind_none, obind_some, obind_obind, obind_osum])
theorem lat14 : loopsAt b14 = [c14_1] := by kernel_rfl
theorem lok14 : loopsOk env14 14 b14 := loopsOk_at b14 (fun _ => rfl) (by rw [lat14]; exact (aC ⟨fL (by kernel_rfl) (ok14_1), aN⟩))
theorem env14_ok : EnvOk env14 := envOf_ok tok mixed noGor (sg := []) aN (fn := Tryd.f14) (c := b14) (by kernel_rfl) (by kernel_rfl) (lok14) rf_ok chk_ok
theorem sum14_ok : SumOk Tryd.prog 14 sum14 := sumR env14_ok (by decide) fun x => by kernel_rfl

/-! ### quillwort/quillwortref11.Right -/
noncomputable def b6 : Code := (Tryd.f6.body).getD .skip
noncomputable def c6_13 : Code := cA (cA (cB (cB (cB (cB (cB (cA (cA (cB (cA (cA (cB (cA (cB (cB (b6))))))))))))))))
noncomputable def c6_4 : Code := cA (cA (cB (cA (cB (cB (b6))))))
def k6_13 : Keep := ⟨[0, 5, 6, 7, 100013], [], [0, 5], [], [4], []⟩
def k6_4 : Keep := ⟨[0, 5, 100004], [], [], [], [4], []⟩
def p6_13 : SP := ⟨us [.v (.list (.pair (.int .i64) (.pair (.int .i64) (.pair (.int .i64) (.pair (.int .i64) .unit))))), .u, .u, .u, .u, .v (.int .i64), .v (.int .i64), .v (.int .i64)] 131, []⟩
def pa6_13 : SP := ⟨us [.v (.list (.pair (.int .i64) (.pair (.int .i64) (.pair (.int .i64) (.pair (.int .i64) .unit))))), .u, .u, .u, .u, .v (.int .i64)] 133, []⟩
def pb6_13 : SP := ⟨us [.u, .u, .u, .u, .v .bool] 134, []⟩
def st6_13 {γ : Type} (rec : (List (Int × Int × Int × Int × Unit)) → Int → Int → Int → Option γ) (kE : (List (Int × Int × Int × Int × Unit)) → Int → Option γ) (kR : Bool → Option γ) (v0 : List (Int × Int × Int × Int × Unit)) (v1 : Int) (v2 : Int) (v3 : Int) : Option γ :=
  bif (ltI v3 v1) then
    bif (inI v0 v3) then
      bif (eqI (getI v0 (0, (0, (0, (0, ())))) v3).2.2.2.1 v2) then
        bif (inI v0 v3) then
          bif (inI v0 v1) then
            bif (ltI (getI v0 (0, (0, (0, (0, ())))) v1).2.1 (getI v0 (0, (0, (0, (0, ())))) v3).2.2.1) then
              kR false
            else
            rec v0 v1 v2 (addK .i64 v3 1)
          else
          none
        else
        none
      else
      rec v0 v1 v2 (addK .i64 v3 1)
    else
    none
  else
  kE v0 v1
def lp6_13 : Nat → (List (Int × Int × Int × Int × Unit)) → Int → Int → Int → Option (pa6_13.den ⊕ pb6_13.den)
  | 0, _, _, _, _ => none
  | n + 1, v0, v1, v2, v3 => st6_13 (lp6_13 n) (fun e0 e1 => some (.inl ((e0, e1, ()), ()))) (fun r0 => some (.inr ((r0, ()), ()))) v0 v1 v2 v3
noncomputable def ls6_13 : LoopSum := loopBy k6_13 p6_13 pa6_13 pb6_13 (.exit 2) (fun v => lp6_13 fuelN v.1.1 v.1.2.1 v.1.2.2.1 v.1.2.2.2.1) 6
def p6_4 : SP := ⟨us [.v (.list (.pair (.int .i64) (.pair (.int .i64) (.pair (.int .i64) (.pair (.int .i64) .unit))))), .u, .u, .u, .u, .v (.int .i64)] 133, []⟩
def pa6_4 : SP := ⟨us [] 139, []⟩
def pb6_4 : SP := ⟨us [.u, .u, .u, .u, .v .bool] 134, []⟩
def st6_4 {γ : Type} (rec : (List (Int × Int × Int × Int × Unit)) → Int → Option γ) (kE : Option γ) (kR : Bool → Option γ) (v0 : List (Int × Int × Int × Int × Unit)) (v1 : Int) : Option γ :=
  bif (ltI v1 (lenI v0)) then
    bif (inI v0 v1) then
      bif (ltI (getI v0 (0, (0, (0, (0, ())))) v1).1 1) then
        kR false
      else
      bif (inI v0 v1) then
        bif (ltI 18 (getI v0 (0, (0, (0, (0, ())))) v1).1) then
          kR false
        else
        bif (inI v0 v1) then
          bif (inI v0 v1) then
            bif (ltI (getI v0 (0, (0, (0, (0, ())))) v1).2.2.1 (getI v0 (0, (0, (0, (0, ())))) v1).2.1) then
              kR false
            else
            bif (eqI v1 0) then
              rec v0 (addK .i64 v1 1)
            else
            bif (inI v0 v1) then
              bif (ltI (getI v0 (0, (0, (0, (0, ())))) v1).2.2.2.1 0) then
                kR false
              else
              bif (leI v1 (getI v0 (0, (0, (0, (0, ())))) v1).2.2.2.1) then
                kR false
              else
              obind (fn14 v0 (getI v0 (0, (0, (0, (0, ())))) v1).2.2.2.1 (subK .i64 v1 1)) fun y0 =>
                bif (!y0.1) then
                  kR false
                else
                bif (inI v0 v1) then
                  bif (inI v0 (getI v0 (0, (0, (0, (0, ())))) v1).2.2.2.1) then
                    bif (ltI (getI v0 (0, (0, (0, (0, ())))) v1).2.1 (getI v0 (0, (0, (0, (0, ())))) (getI v0 (0, (0, (0, (0, ())))) v1).2.2.2.1).2.1) then
                      kR false
                    else
                    bif (inI v0 v1) then
                      bif (inI v0 (getI v0 (0, (0, (0, (0, ())))) v1).2.2.2.1) then
                        bif (ltI (getI v0 (0, (0, (0, (0, ())))) (getI v0 (0, (0, (0, (0, ())))) v1).2.2.2.1).2.2.1 (getI v0 (0, (0, (0, (0, ())))) v1).2.2.1) then
                          kR false
                        else
                        obind (lp6_13 fuelN v0 v1 (getI v0 (0, (0, (0, (0, ())))) v1).2.2.2.1 1) fun y1 =>
                          osum y1 (fun a2 =>
                            rec a2.1.1 (addK .i64 a2.1.2.1 1)) (fun b2 =>
                            kR b2.1.1)
                      else
                      none
                    else
                    none
                  else
                  none
                else
                none
            else
            none
          else
          none
        else
        none
      else
      none
    else
    none
  else
  kE 
def lp6_4 : Nat → (List (Int × Int × Int × Int × Unit)) → Int → Option (pa6_4.den ⊕ pb6_4.den)
  | 0, _, _ => none
  | n + 1, v0, v1 => st6_4 (lp6_4 n) (some (.inl ((), ()))) (fun r0 => some (.inr ((r0, ()), ()))) v0 v1
noncomputable def ls6_4 : LoopSum := loopBy k6_4 p6_4 pa6_4 pb6_4 (.exit 0) (fun v => lp6_4 fuelN v.1.1 v.1.2.1) 12
def fn6 (x0 : List (Int × Int × Int × Int × Unit)) (x1 : Int) : Option (Bool × Unit) :=
  bif (eqI (lenI x0) 0) then
    some (false, ())
  else
  bif (inI x0 0) then
    bif (!(eqI (getI x0 (0, (0, (0, (0, ())))) 0).2.2.2.1 (-1))) then
      some (false, ())
    else
    bif (inI x0 0) then
      bif (!(eqI (getI x0 (0, (0, (0, (0, ())))) 0).2.1 0)) then
        some (false, ())
      else
      bif (inI x0 0) then
        bif (!(eqI (getI x0 (0, (0, (0, (0, ())))) 0).2.2.1 x1)) then
          some (false, ())
        else
        obind (lp6_4 fuelN x0 0) fun y0 =>
          osum y0 (fun a1 =>
            some (true, ())) (fun b1 =>
            some (b1.1.1, ()))
      else
      none
    else
    none
  else
  none
def sum6 : Sum := (⟨[.list (.pair (.int .i64) (.pair (.int .i64) (.pair (.int .i64) (.pair (.int .i64) .unit)))), .int .i64], [(.bool, false)], fun x => fn6 x.1 x.2.1⟩ : Sum)
noncomputable def env6 : Env := envOf Tryd.prog tt 6 [(14, sum14)] [(13, k6_13), (4, k6_4)] [(13, ls6_13), (4, ls6_4)]
def sT6_13 {γ : Type} (a : p6_13.den → Option γ) (b : pa6_13.den → Option γ) (c : pb6_13.den → Option γ) (v : p6_13.den) : Option γ := st6_13 (fun v0 v1 v2 v3 => a ((v0, v1, v2, v3, ()), ())) (fun e0 e1 => b ((e0, e1, ()), ())) (fun r0 => c ((r0, ()), ())) v.1.1 v.1.2.1 v.1.2.2.1 v.1.2.2.2.1
theorem ok6_13 : LoopOk env6 6 c6_13 ls6_13 := lpS (sT6_13) (lp := fun n (v : p6_13.den) => lp6_13 n v.1.1 v.1.2.1 v.1.2.2.1 v.1.2.2.2.1) (by kernel_rfl) (fun _ => rfl) (fun _ _ => rfl) (fun d n K v => by kernel_rfl) (by intros; simp only [sT6_13, st6_13, obind_cond, obind_none, obind_some, obind_obind, obind_osum])
def sT6_4 {γ : Type} (a : p6_4.den → Option γ) (b : pa6_4.den → Option γ) (c : pb6_4.den → Option γ) (v : p6_4.den) : Option γ := st6_4 (fun v0 v1 => a ((v0, v1, ()), ())) (b ((), ())) (fun r0 => c ((r0, ()), ())) v.1.1 v.1.2.1
theorem ok6_4 : LoopOk env6 6 c6_4 ls6_4 := lpS (sT6_4) (lp := fun n (v : p6_4.den) => lp6_4 n v.1.1 v.1.2.1) (by kernel_rfl) (fun _ => rfl) (fun _ _ => rfl) (fun d n K v => by kernel_rfl) (by intros; simp only [sT6_4, st6_4, obind_cond, obind_none, obind_some, obind_obind, obind_osum])
theorem lat6 : loopsAt b6 = [c6_13, c6_4] := by kernel_rfl
theorem lok6 : loopsOk env6 6 b6 := loopsOk_at b6 (fun _ => rfl) (by rw [lat6]; exact (aC ⟨fL (by kernel_rfl) (ok6_13), (aC ⟨fL (by kernel_rfl) (ok6_4), aN⟩)⟩))
theorem env6_ok : EnvOk env6 := envOf_ok tok mixed noGor (sg := [(14, sum14)]) (aC ⟨(sum14_ok), aN⟩) (fn := Tryd.f6) (c := b6) (by kernel_rfl) (by kernel_rfl) (lok6) rf_ok chk_ok
theorem sum6_ok : SumOk Tryd.prog 6 sum6 := sumR env6_ok (by decide) fun x => by kernel_rfl

/-! ### quillwort/quillwortref11.digits -/
noncomputable def b15 : Code := (Tryd.f15.body).getD .skip
noncomputable def c15_2 : Code := cA (cA (cA (cB (cB (b15)))))
def k15_2 : Keep := ⟨[0, 3, 100002], [], [0, 3], [], [2], []⟩
def p15_2 : SP := ⟨us [.v (.int .i64), .u, .u, .v .str] 18, []⟩
def pa15_2 : SP := ⟨us [.v (.int .i64), .u, .u, .v .str] 18, []⟩
def pb15_2 : SP := ⟨us [.u, .u, .v .str] 19, []⟩
def st15_2 {γ : Type} (rec : Int → (List UInt8) → Option γ) (kE : Int → (List UInt8) → Option γ) (kR : (List UInt8) → Option γ) (v0 : Int) (v1 : List UInt8) : Option γ :=
  bif (ltI 9 v0) then
    bif (!(eqI 10 0)) then
      bif (!(eqI 10 0)) then
        bif (partI (lenI [48, 49, 50, 51, 52, 53, 54, 55, 56, 57]) (remI v0 10) (addK .i64 (remI v0 10) 1)) then
          bif (roomS (sub [48, 49, 50, 51, 52, 53, 54, 55, 56, 57] (remI v0 10) (addK .i64 (remI v0 10) 1)) v1) then
            bif (!(eqI 10 0)) then
              rec (divK .i64 v0 10) (catL (sub [48, 49, 50, 51, 52, 53, 54, 55, 56, 57] (remI v0 10) (addK .i64 (remI v0 10) 1)) v1)
            else
            none
          else
          none
        else
        none
      else
      none
    else
    none
  else
  kE v0 v1
def lp15_2 : Nat → Int → (List UInt8) → Option (pa15_2.den ⊕ pb15_2.den)
  | 0, _, _ => none
  | n + 1, v0, v1 => st15_2 (lp15_2 n) (fun e0 e1 => some (.inl ((e0, e1, ()), ()))) (fun r0 => some (.inr ((r0, ()), ()))) v0 v1
noncomputable def ls15_2 : LoopSum := loopBy k15_2 p15_2 pa15_2 pb15_2 (.exit 0) (fun v => lp15_2 fuelN v.1.1 v.1.2.1) 6
def fn15 (x0 : Int) : Option ((List UInt8) × Unit) :=
  obind (lp15_2 fuelN x0 []) fun y0 =>
    osum y0 (fun a1 =>
      bif (partI (lenI [48, 49, 50, 51, 52, 53, 54, 55, 56, 57]) a1.1.1 (addK .i64 a1.1.1 1)) then
        bif (roomS (sub [48, 49, 50, 51, 52, 53, 54, 55, 56, 57] a1.1.1 (addK .i64 a1.1.1 1)) a1.1.2.1) then
          some ((catL (sub [48, 49, 50, 51, 52, 53, 54, 55, 56, 57] a1.1.1 (addK .i64 a1.1.1 1)) a1.1.2.1), ())
        else
        none
      else
      none) (fun b1 =>
      some (b1.1.1, ()))
def sum15 : Sum := (⟨[.int .i64], [(.str, false)], fun x => fn15 x.1⟩ : Sum)
noncomputable def env15 : Env := envOf Tryd.prog tt 15 [] [(2, k15_2)] [(2, ls15_2)]
def sT15_2 {γ : Type} (a : p15_2.den → Option γ) (b : pa15_2.den → Option γ) (c : pb15_2.den → Option γ) (v : p15_2.den) : Option γ := st15_2 (fun v0 v1 => a ((v0, v1, ()), ())) (fun e0 e1 => b ((e0, e1, ()), ())) (fun r0 => c ((r0, ()), ())) v.1.1 v.1.2.1
theorem ok15_2 : LoopOk env15 15 c15_2 ls15_2 := lpS (sT15_2) (lp := fun n (v : p15_2.den) => lp15_2 n v.1.1 v.1.2.1) (by kernel_rfl) (fun _ => rfl) (fun _ _ => rfl) (fun d n K v => by kernel_rfl) (by intros; simp only [sT15_2, st15_2, obind_cond, obind_none, obind_some, obind_obind, obind_osum])
theorem lat15 : loopsAt b15 = [c15_2] := by kernel_rfl
theorem lok15 : loopsOk env15 15 b15 := loopsOk_at b15 (fun _ => rfl) (by rw [lat15]; exact (aC ⟨fL (by kernel_rfl) (ok15_2), aN⟩))
theorem env15_ok : EnvOk env15 := envOf_ok tok mixed noGor (sg := []) aN (fn := Tryd.f15) (c := b15) (by kernel_rfl) (by kernel_rfl) (lok15) rf_ok chk_ok
theorem sum15_ok : SumOk Tryd.prog 15 sum15 := sumR env15_ok (by decide) fun x => by kernel_rfl

structure Q7 where
  q7 : (List (Int × Int × Int × Int × Unit)) → Int → Option ((List UInt8) × Unit)
def sum7q (q : Q7) : Sum := (⟨[.list (.pair (.int .i64) (.pair (.int .i64) (.pair (.int .i64) (.pair (.int .i64) .unit)))), .int .i64], [(.str, false)], fun x => q.q7 x.1 x.2.1⟩ : Sum)

/-! ### quillwort/quillwortref11.Show -/
noncomputable def b7 : Code := (Tryd.f7.body).getD .skip
noncomputable def c7_4 : Code := cA (cA (cB (cA (cB (cB (cB (b7)))))))
def k7_4 : Keep := ⟨[0, 1, 5, 6, 7, 100004], [], [5, 6], [], [4], []⟩
def p7_4 : SP := ⟨us [.v (.list (.pair (.int .i64) (.pair (.int .i64) (.pair (.int .i64) (.pair (.int .i64) .unit))))), .v (.int .i64), .u, .u, .u, .v .str, .v (.int .i64), .v (.int .i64)] 60, []⟩
def pa7_4 : SP := ⟨us [.u, .u, .u, .u, .u, .v .str, .v (.int .i64)] 61, []⟩
def pb7_4 : SP := ⟨us [.u, .u, .u, .u, .v .str] 63, []⟩
def st7_4 (q : Q7) {γ : Type} (rec : (List (Int × Int × Int × Int × Unit)) → Int → (List UInt8) → Int → Int → Option γ) (kE : (List UInt8) → Int → Option γ) (kR : (List UInt8) → Option γ) (v0 : List (Int × Int × Int × Int × Unit)) (v1 : Int) (v2 : List UInt8) (v3 : Int) (v4 : Int) : Option γ :=
  bif (ltI v4 (lenI v0)) then
    bif (inI v0 v4) then
      bif (eqI (getI v0 (0, (0, (0, (0, ())))) v4).2.2.2.1 v1) then
        bif (eqI v3 0) then
          bif (roomS v2 [40]) then
            obind (q.q7 v0 v4) fun y0 =>
              bif (roomS (catL v2 [40]) y0.1) then
                rec v0 v1 (catL (catL v2 [40]) y0.1) (addK .i64 v3 1) (addK .i64 v4 1)
              else
              none
          else
          none
        else
        bif (roomS v2 [32]) then
          obind (q.q7 v0 v4) fun y0 =>
            bif (roomS (catL v2 [32]) y0.1) then
              rec v0 v1 (catL (catL v2 [32]) y0.1) (addK .i64 v3 1) (addK .i64 v4 1)
            else
            none
        else
        none
      else
      rec v0 v1 v2 v3 (addK .i64 v4 1)
    else
    none
  else
  kE v2 v3
def lp7_4 (q : Q7) : Nat → (List (Int × Int × Int × Int × Unit)) → Int → (List UInt8) → Int → Int → Option (pa7_4.den ⊕ pb7_4.den)
  | 0, _, _, _, _, _ => none
  | n + 1, v0, v1, v2, v3, v4 => st7_4 q (lp7_4 q n) (fun e0 e1 => some (.inl ((e0, e1, ()), ()))) (fun r0 => some (.inr ((r0, ()), ()))) v0 v1 v2 v3 v4
noncomputable def ls7_4 (q : Q7) : LoopSum := loopBy k7_4 p7_4 pa7_4 pb7_4 (.exit 0) (fun v => lp7_4 q fuelN v.1.1 v.1.2.1 v.1.2.2.1 v.1.2.2.2.1 v.1.2.2.2.2.1) 6
def fb7 (q : Q7) (x0 : List (Int × Int × Int × Int × Unit)) (x1 : Int) : Option ((List UInt8) × Unit) :=
  bif (inI x0 x1) then
    bif (inI x0 x1) then
      bif (partI (lenI [63, 80, 76, 65, 73, 83, 88, 87, 82, 66, 85, 70, 72, 79, 67, 84, 78, 69, 77]) (getI x0 (0, (0, (0, (0, ())))) x1).1 (addK .i64 (getI x0 (0, (0, (0, (0, ())))) x1).1 1)) then
        bif (inI x0 x1) then
          obind (fn15 (getI x0 (0, (0, (0, (0, ())))) x1).2.1) fun y0 =>
            bif (roomS (sub [63, 80, 76, 65, 73, 83, 88, 87, 82, 66, 85, 70, 72, 79, 67, 84, 78, 69, 77] (getI x0 (0, (0, (0, (0, ())))) x1).1 (addK .i64 (getI x0 (0, (0, (0, (0, ())))) x1).1 1)) y0.1) then
              bif (roomS (catL (sub [63, 80, 76, 65, 73, 83, 88, 87, 82, 66, 85, 70, 72, 79, 67, 84, 78, 69, 77] (getI x0 (0, (0, (0, (0, ())))) x1).1 (addK .i64 (getI x0 (0, (0, (0, (0, ())))) x1).1 1)) y0.1) [45]) then
                bif (inI x0 x1) then
                  obind (fn15 (getI x0 (0, (0, (0, (0, ())))) x1).2.2.1) fun y1 =>
                    bif (roomS (catL (catL (sub [63, 80, 76, 65, 73, 83, 88, 87, 82, 66, 85, 70, 72, 79, 67, 84, 78, 69, 77] (getI x0 (0, (0, (0, (0, ())))) x1).1 (addK .i64 (getI x0 (0, (0, (0, (0, ())))) x1).1 1)) y0.1) [45]) y1.1) then
                      obind (lp7_4 q fuelN x0 x1 (catL (catL (catL (sub [63, 80, 76, 65, 73, 83, 88, 87, 82, 66, 85, 70, 72, 79, 67, 84, 78, 69, 77] (getI x0 (0, (0, (0, (0, ())))) x1).1 (addK .i64 (getI x0 (0, (0, (0, (0, ())))) x1).1 1)) y0.1) [45]) y1.1) 0 (addK .i64 x1 1)) fun y2 =>
                        osum y2 (fun a3 =>
                          bif (ltI 0 a3.1.2.1) then
                            bif (roomS a3.1.1 [41]) then
                              some ((catL a3.1.1 [41]), ())
                            else
                            none
                          else
                          some (a3.1.1, ())) (fun b3 =>
                          some (b3.1.1, ()))
                    else
                    none
                else
                none
              else
              none
            else
            none
        else
        none
      else
      none
    else
    none
  else
  none
noncomputable def env7 (q : Q7) : Env := envOf Tryd.prog tt 7 [(7, sum7q q), (15, sum15)] [(4, k7_4)] [(4, ls7_4 q)]
def sT7_4 (q : Q7) {γ : Type} (a : p7_4.den → Option γ) (b : pa7_4.den → Option γ) (c : pb7_4.den → Option γ) (v : p7_4.den) : Option γ := st7_4 q (fun v0 v1 v2 v3 v4 => a ((v0, v1, v2, v3, v4, ()), ())) (fun e0 e1 => b ((e0, e1, ()), ())) (fun r0 => c ((r0, ()), ())) v.1.1 v.1.2.1 v.1.2.2.1 v.1.2.2.2.1 v.1.2.2.2.2.1
theorem ok7_4 (q : Q7) : LoopOk (env7 q) 7 c7_4 (ls7_4 q) := lpS (sT7_4 q) (lp := fun n (v : p7_4.den) => lp7_4 q n v.1.1 v.1.2.1 v.1.2.2.1 v.1.2.2.2.1 v.1.2.2.2.2.1) (by kernel_rfl) (fun _ => rfl) (fun _ _ => rfl) (fun d n K v => by kernel_rfl) (by intros; simp only [sT7_4, st7_4, obind_cond, obind_none, obind_some, obind_obind, obind_osum])
theorem run7 (q : Q7) (x0 : List (Int × Int × Int × Int × Unit)) (x1 : Int) : runF (env7 q) 7 [.list (.pair (.int .i64) (.pair (.int .i64) (.pair (.int .i64) (.pair (.int .i64) .unit)))), .int .i64] [(.str, false)] (x0, x1, ()) = fb7 q x0 x1 := by kernel_rfl
theorem lat7 : loopsAt b7 = [c7_4] := by kernel_rfl
theorem lok7 (q : Q7) : loopsOk (env7 q) 7 b7 := loopsOk_at b7 (fun _ => rfl) (by rw [lat7]; exact (aC ⟨fL (by kernel_rfl) (ok7_4 q), aN⟩))
theorem env7_ok (q : Q7) (hq7 : SumOk Tryd.prog 7 (sum7q q)) : EnvOk (env7 q) := envOf_ok tok mixed noGor (sg := [(7, sum7q q), (15, sum15)]) (aC ⟨(hq7), (aC ⟨(sum15_ok), aN⟩)⟩) (fn := Tryd.f7) (c := b7) (by kernel_rfl) (by kernel_rfl) (lok7 q) rf_ok chk_ok

/-! ### the ring of quillwort/quillwortref11.Show -/
def fr7 : Nat → Q7
  | 0 => ⟨(fun _ _ => none)⟩
  | r + 1 => ⟨fb7 (fr7 r)⟩
def fn7 (x0 : List (Int × Int × Int × Int × Unit)) (x1 : Int) : Option ((List UInt8) × Unit) := (fr7 fuelN).q7 x0 x1
def sum7 : Sum := (⟨[.list (.pair (.int .i64) (.pair (.int .i64) (.pair (.int .i64) (.pair (.int .i64) .unit)))), .int .i64], [(.str, false)], fun x => fn7 x.1 x.2.1⟩ : Sum)
theorem ring7 : ∀ r, SumOk Tryd.prog 7 (sum7q (fr7 r))
  | 0 => fun w bar args' x y _ _ _ hy => nomatch (show (none : Option _) = some y from hy)
  | r + 1 => by
    have ih := ring7 r
    exact sum_of_run (env7_ok (fr7 r) ih) (show news [(Ty.str, false)] ≤ 1 by decide) fun x y h => (run7 (fr7 r) (x.1) (x.2.1)).trans h
theorem sum7_ok : SumOk Tryd.prog 7 sum7 := (ring7 fuelN)

/-! ### internal/stringslite.IndexByte -/
def fn25 (x0 : List UInt8) (x1 : Int) : Option (Int × Unit) :=
  some ((ibW x0 x1), ())
def sum25 : Sum := (⟨[.str, .int .u8], [(.int .i64, false)], fun x => fn25 x.1 x.2.1⟩ : Sum)
noncomputable def env25 : Env := envOf Tryd.prog tt 25 [(27, sumIB)] [] []
theorem env25_ok : EnvOk env25 := envOf_ok tok mixed noGor (sg := [(27, sumIB)]) (aC ⟨(sumIB_ok Tryd.func27 (by kernel_rfl) (by kernel_rfl) (by kernel_rfl) (by kernel_rfl)), aN⟩) (fn := Tryd.f25) (c := (Tryd.f25.body).getD .skip) (by kernel_rfl) (by kernel_rfl) (loopsOk_none (fun _ => rfl) (fun _ => rfl) _) rf_ok chk_ok
theorem sum25_ok : SumOk Tryd.prog 25 sum25 := sumR env25_ok (by decide) fun x => by kernel_rfl

/-! ### strings.IndexByte -/
def fn21 (x0 : List UInt8) (x1 : Int) : Option (Int × Unit) :=
  obind (fn25 x0 x1) fun y0 =>
    some (y0.1, ())
def sum21 : Sum := (⟨[.str, .int .u8], [(.int .i64, false)], fun x => fn21 x.1 x.2.1⟩ : Sum)
noncomputable def env21 : Env := envOf Tryd.prog tt 21 [(25, sum25)] [] []
theorem env21_ok : EnvOk env21 := envOf_ok tok mixed noGor (sg := [(25, sum25)]) (aC ⟨(sum25_ok), aN⟩) (fn := Tryd.f21) (c := (Tryd.f21.body).getD .skip) (by kernel_rfl) (by kernel_rfl) (loopsOk_none (fun _ => rfl) (fun _ => rfl) _) rf_ok chk_ok
theorem sum21_ok : SumOk Tryd.prog 21 sum21 := sumR env21_ok (by decide) fun x => by kernel_rfl

/-! ### quillwort/tree.number -/
noncomputable def b22 : Code := (Tryd.f22.body).getD .skip
noncomputable def c22_2 : Code := cA (cA (cA (cB (cB (b22)))))
def k22_2 : Keep := ⟨[0, 1, 4, 5, 100002], [], [1, 4, 5], [], [4, 5, 6], []⟩
def p22_2 : SP := ⟨us [.v .str, .v (.int .i64), .u, .u, .v (.int .i64), .v (.int .i64)] 43, []⟩
def pa22_2 : SP := ⟨us [.u, .v (.int .i64), .u, .u, .v (.int .i64), .v (.int .i64)] 43, []⟩
def pb22_2 : SP := ⟨us [.u, .u, .u, .u, .v (.int .i64), .v (.int .i64), .v .bool] 42, []⟩
def st22_2 {γ : Type} (rec : (List UInt8) → Int → Int → Int → Option γ) (kE : Int → Int → Int → Option γ) (kR : Int → Int → Bool → Option γ) (v0 : List UInt8) (v1 : Int) (v2 : Int) (v3 : Int) : Option γ :=
  bif (ltI v3 (lenI v0)) then
    bif (ltI v3 (addK .i64 v1 7)) then
      bif (inI v0 v3) then
        bif (leI 48 (byteAt v0 v3)) then
          bif (inI v0 v3) then
            bif (leI (byteAt v0 v3) 57) then
              bif (inI v0 v3) then
                bif (inI v0 v1) then
                  bif (eqI (byteAt v0 v1) 48) then
                    kE v1 (addK .i64 (mulK .i64 v2 10) (wrapK .i64 (subK .u8 (byteAt v0 v3) 48))) (addK .i64 v3 1)
                  else
                  rec v0 v1 (addK .i64 (mulK .i64 v2 10) (wrapK .i64 (subK .u8 (byteAt v0 v3) 48))) (addK .i64 v3 1)
                else
                none
              else
              none
            else
            kE v1 v2 v3
          else
          none
        else
        kE v1 v2 v3
      else
      none
    else
    kE v1 v2 v3
  else
  kE v1 v2 v3
def lp22_2 : Nat → (List UInt8) → Int → Int → Int → Option (pa22_2.den ⊕ pb22_2.den)
  | 0, _, _, _, _ => none
  | n + 1, v0, v1, v2, v3 => st22_2 (lp22_2 n) (fun e0 e1 e2 => some (.inl ((e0, e1, e2, ()), ()))) (fun r0 r1 r2 => some (.inr ((r0, r1, r2, ()), ()))) v0 v1 v2 v3
noncomputable def ls22_2 : LoopSum := loopBy k22_2 p22_2 pa22_2 pb22_2 (.exit 0) (fun v => lp22_2 fuelN v.1.1 v.1.2.1 v.1.2.2.1 v.1.2.2.2.1) 6
def fn22 (x0 : List UInt8) (x1 : Int) : Option (Int × Int × Bool × Unit) :=
  obind (lp22_2 fuelN x0 x1 0 x1) fun y0 =>
    osum y0 (fun a1 =>
      some (a1.1.2.1, (a1.1.2.2.1, ((ltI a1.1.1 a1.1.2.2.1), ())))) (fun b1 =>
      some (b1.1.1, (b1.1.2.1, (b1.1.2.2.1, ()))))
def sum22 : Sum := (⟨[.str, .int .i64], [(.int .i64, false), (.int .i64, false), (.bool, false)], fun x => fn22 x.1 x.2.1⟩ : Sum)
noncomputable def env22 : Env := envOf Tryd.prog tt 22 [] [(2, k22_2)] [(2, ls22_2)]
def sT22_2 {γ : Type} (a : p22_2.den → Option γ) (b : pa22_2.den → Option γ) (c : pb22_2.den → Option γ) (v : p22_2.den) : Option γ := st22_2 (fun v0 v1 v2 v3 => a ((v0, v1, v2, v3, ()), ())) (fun e0 e1 e2 => b ((e0, e1, e2, ()), ())) (fun r0 r1 r2 => c ((r0, r1, r2, ()), ())) v.1.1 v.1.2.1 v.1.2.2.1 v.1.2.2.2.1
theorem ok22_2 : LoopOk env22 22 c22_2 ls22_2 := lpS (sT22_2) (lp := fun n (v : p22_2.den) => lp22_2 n v.1.1 v.1.2.1 v.1.2.2.1 v.1.2.2.2.1) (by kernel_rfl) (fun _ => rfl) (fun _ _ => rfl) (fun d n K v => by kernel_rfl) (by intros; simp only [sT22_2, st22_2, obind_cond, obind_none, obind_some, obind_obind, obind_osum])
theorem lat22 : loopsAt b22 = [c22_2] := by kernel_rfl
theorem lok22 : loopsOk env22 22 b22 := loopsOk_at b22 (fun _ => rfl) (by rw [lat22]; exact (aC ⟨fL (by kernel_rfl) (ok22_2), aN⟩))
theorem env22_ok : EnvOk env22 := envOf_ok tok mixed noGor (sg := []) aN (fn := Tryd.f22) (c := b22) (by kernel_rfl) (by kernel_rfl) (lok22) rf_ok chk_ok
theorem sum22_ok : SumOk Tryd.prog 22 sum22 := sumR env22_ok (by decide) fun x => by kernel_rfl

/-! ### quillwort/tree.node -/
def fn16 (x0 : List UInt8) (x1 : Int) : Option ((Int × Int × Int × Int × Unit) × Int × Bool × Unit) :=
  bif (leI (lenI x0) x1) then
    some ((0, (0, (0, (0, ())))), (x1, (false, ())))
  else
  bif (inI x0 x1) then
    bif (eqI (byteAt x0 x1) 63) then
      some ((0, (0, (0, (0, ())))), (x1, (false, ())))
    else
    bif (inI x0 x1) then
      obind (fn21 [63, 80, 76, 65, 73, 83, 88, 87, 82, 66, 85, 70, 72, 79, 67, 84, 78, 69, 77] (byteAt x0 x1)) fun y0 =>
        bif (ltI y0.1 0) then
          some ((y0.1, (0, (0, (0, ())))), (x1, (false, ())))
        else
        obind (fn22 x0 (addK .i64 x1 1)) fun y1 =>
          bif (!y1.2.2.1) then
            some ((y0.1, (y1.1, (0, (0, ())))), (y1.2.1, (false, ())))
          else
          bif (leI (lenI x0) y1.2.1) then
            some ((y0.1, (y1.1, (0, (0, ())))), (y1.2.1, (false, ())))
          else
          bif (inI x0 y1.2.1) then
            bif (!(eqI (byteAt x0 y1.2.1) 45)) then
              some ((y0.1, (y1.1, (0, (0, ())))), (y1.2.1, (false, ())))
            else
            obind (fn22 x0 (addK .i64 y1.2.1 1)) fun y2 =>
              some ((y0.1, (y1.1, (y2.1, (0, ())))), (y2.2.1, (y2.2.2.1, ())))
          else
          none
    else
    none
  else
  none
def sum16 : Sum := (⟨[.str, .int .i64], [(.pair (.int .i64) (.pair (.int .i64) (.pair (.int .i64) (.pair (.int .i64) .unit))), false), (.int .i64, false), (.bool, false)], fun x => fn16 x.1 x.2.1⟩ : Sum)
noncomputable def env16 : Env := envOf Tryd.prog tt 16 [(21, sum21), (22, sum22)] [] []
theorem env16_ok : EnvOk env16 := envOf_ok tok mixed noGor (sg := [(21, sum21), (22, sum22)]) (aC ⟨(sum21_ok), (aC ⟨(sum22_ok), aN⟩)⟩) (fn := Tryd.f16) (c := (Tryd.f16.body).getD .skip) (by kernel_rfl) (by kernel_rfl) (loopsOk_none (fun _ => rfl) (fun _ => rfl) _) rf_ok chk_ok
theorem sum16_ok : SumOk Tryd.prog 16 sum16 := sumR env16_ok (by decide) fun x => by kernel_rfl

/-! ### quillwort/tree.Read -/
noncomputable def b8 : Code := (Tryd.f8.body).getD .skip
noncomputable def c8_8 : Code := cA (cA (cA (cB (cB (cB (cB (cB (cA (cA (cA (cA (cB (cB (cA (cB (b8))))))))))))))))
noncomputable def c8_2 : Code := cA (cA (cA (cB (cB (cA (cB (b8)))))))
def k8_8 : Keep := ⟨[0, 2, 3, 5, 9, 100008], [], [0, 2, 3, 5, 9], [], [2, 3, 4], [(2, (.pair (.int .i64) (.pair (.int .i64) (.pair (.int .i64) (.pair (.int .i64) .unit)))))]⟩
def k8_2 : Keep := ⟨[0, 2, 3, 5, 100002], [(2, (.pair (.int .i64) (.pair (.int .i64) (.pair (.int .i64) (.pair (.int .i64) .unit)))))], [2], [], [2, 3, 4], [(2, (.pair (.int .i64) (.pair (.int .i64) (.pair (.int .i64) (.pair (.int .i64) .unit)))))]⟩
def p8_8 : SP := ⟨us [.v .str, .u, .slc 1800002, .v (.int .i64), .u, .v (.int .i64), .u, .u, .u, .v (.int .i64)] 103, [.arr 1800002 (.pair (.int .i64) (.pair (.int .i64) (.pair (.int .i64) (.pair (.int .i64) .unit))))]⟩
def pa8_8 : SP := ⟨us [.v .str, .u, .slc 1800002, .v (.int .i64), .u, .v (.int .i64), .u, .u, .u, .v (.int .i64)] 103, [.arr 1800002 (.pair (.int .i64) (.pair (.int .i64) (.pair (.int .i64) (.pair (.int .i64) .unit))))]⟩
def pb8_8 : SP := ⟨us [.u, .u, .v (.list (.pair (.int .i64) (.pair (.int .i64) (.pair (.int .i64) (.pair (.int .i64) .unit))))), .v (.int .i64), .v (.int .i64)] 108, []⟩
def st8_8 {γ : Type} (rec : (List UInt8) → Int → Int → Int → (List (Int × Int × Int × Int × Unit)) → Option γ) (kE : (List UInt8) → Int → Int → Int → (List (Int × Int × Int × Int × Unit)) → Option γ) (kR : (List (Int × Int × Int × Int × Unit)) → Int → Int → Option γ) (v0 : List UInt8) (v1 : Int) (v2 : Int) (v3 : Int) (v4 : List (Int × Int × Int × Int × Unit)) : Option γ :=
  bif (leI 0 v2) then
    bif (ltI v1 (lenI v0)) then
      bif (inI v0 v1) then
        bif (eqI (byteAt v0 v1) 41) then
          bif (inI v4 v2) then
            bif (ltL (natI v2) v4) then
              rec v0 (addK .i64 v1 1) (nthN v4 (0, (0, (0, (0, ())))) (natI v2)).2.2.2.1 v2 v4
            else
            none
          else
          none
        else
        kE v0 v1 v2 v3 v4
      else
      none
    else
    kE v0 v1 v2 v3 v4
  else
  kE v0 v1 v2 v3 v4
def lp8_8 : Nat → (List UInt8) → Int → Int → Int → (List (Int × Int × Int × Int × Unit)) → Option (pa8_8.den ⊕ pb8_8.den)
  | 0, _, _, _, _, _ => none
  | n + 1, v0, v1, v2, v3, v4 => st8_8 (lp8_8 n) (fun e0 e1 e2 e3 e4 => some (.inl ((e0, e1, e2, e3, ()), (e4, ())))) (fun r0 r1 r2 => some (.inr ((r0, r1, r2, ()), ()))) v0 v1 v2 v3 v4
noncomputable def ls8_8 : LoopSum := loopBy k8_8 p8_8 pa8_8 pb8_8 (.exit 2) (fun v => lp8_8 fuelN v.1.1 v.1.2.1 v.1.2.2.1 v.1.2.2.2.1 v.2.1) 6
def p8_2 : SP := ⟨us [.v .str, .u, .slc 1800002, .v (.int .i64), .u, .v (.int .i64)] 107, [.arr 1800002 (.pair (.int .i64) (.pair (.int .i64) (.pair (.int .i64) (.pair (.int .i64) .unit))))]⟩
def pa8_2 : SP := ⟨us [.u, .u, .slc 1800002] 110, [.arr 1800002 (.pair (.int .i64) (.pair (.int .i64) (.pair (.int .i64) (.pair (.int .i64) .unit))))]⟩
def pb8_2 : SP := ⟨us [.u, .u, .v (.list (.pair (.int .i64) (.pair (.int .i64) (.pair (.int .i64) (.pair (.int .i64) .unit))))), .v (.int .i64), .v (.int .i64)] 108, []⟩
def st8_2 {γ : Type} (rec : (List UInt8) → Int → Int → (List (Int × Int × Int × Int × Unit)) → Option γ) (kE : (List (Int × Int × Int × Int × Unit)) → Option γ) (kR : (List (Int × Int × Int × Int × Unit)) → Int → Int → Option γ) (v0 : List UInt8) (v1 : Int) (v2 : Int) (v3 : List (Int × Int × Int × Int × Unit)) : Option γ :=
  obind (fn16 v0 v1) fun y0 =>
    bif (!y0.2.2.1) then
      kR [] y0.2.1 4
    else
    bif (fitI (catL v3 [(y0.1.1, (y0.1.2.1, (y0.1.2.2.1, (v2, ()))))]) 32) then
      obind (lp8_8 fuelN v0 y0.2.1 v2 (subK .i64 (lenI (catL v3 [(y0.1.1, (y0.1.2.1, (y0.1.2.2.1, (v2, ()))))])) 1) (catL v3 [(y0.1.1, (y0.1.2.1, (y0.1.2.2.1, (v2, ()))))])) fun y1 =>
        osum y1 (fun a2 =>
          bif (eqI a2.1.2.1 (lenI a2.1.1)) then
            bif (ltI a2.1.2.2.1 0) then
              kE a2.2.1
            else
            bif (ltI a2.1.2.1 (lenI a2.1.1)) then
              bif (inI a2.1.1 a2.1.2.1) then
                bif (eqI (byteAt a2.1.1 a2.1.2.1) 40) then
                  bif (eqI a2.1.2.2.2.1 (subK .i64 (lenI a2.2.1) 1)) then
                    bif (inI a2.1.1 (subK .i64 a2.1.2.1 1)) then
                      bif (!(eqI (byteAt a2.1.1 (subK .i64 a2.1.2.1 1)) 41)) then
                        rec a2.1.1 (addK .i64 a2.1.2.1 1) a2.1.2.2.2.1 a2.2.1
                      else
                      bif (ltI a2.1.2.1 (lenI a2.1.1)) then
                        bif (inI a2.1.1 a2.1.2.1) then
                          bif (eqI (byteAt a2.1.1 a2.1.2.1) 32) then
                            bif (leI 0 a2.1.2.2.1) then
                              rec a2.1.1 (addK .i64 a2.1.2.1 1) a2.1.2.2.1 a2.2.1
                            else
                            kR [] a2.1.2.1 4
                          else
                          kR [] a2.1.2.1 4
                        else
                        none
                      else
                      kR [] a2.1.2.1 4
                    else
                    none
                  else
                  bif (ltI a2.1.2.1 (lenI a2.1.1)) then
                    bif (inI a2.1.1 a2.1.2.1) then
                      bif (eqI (byteAt a2.1.1 a2.1.2.1) 32) then
                        bif (leI 0 a2.1.2.2.1) then
                          rec a2.1.1 (addK .i64 a2.1.2.1 1) a2.1.2.2.1 a2.2.1
                        else
                        kR [] a2.1.2.1 4
                      else
                      kR [] a2.1.2.1 4
                    else
                    none
                  else
                  kR [] a2.1.2.1 4
                else
                bif (ltI a2.1.2.1 (lenI a2.1.1)) then
                  bif (inI a2.1.1 a2.1.2.1) then
                    bif (eqI (byteAt a2.1.1 a2.1.2.1) 32) then
                      bif (leI 0 a2.1.2.2.1) then
                        rec a2.1.1 (addK .i64 a2.1.2.1 1) a2.1.2.2.1 a2.2.1
                      else
                      kR [] a2.1.2.1 4
                    else
                    kR [] a2.1.2.1 4
                  else
                  none
                else
                kR [] a2.1.2.1 4
              else
              none
            else
            bif (ltI a2.1.2.1 (lenI a2.1.1)) then
              bif (inI a2.1.1 a2.1.2.1) then
                bif (eqI (byteAt a2.1.1 a2.1.2.1) 32) then
                  bif (leI 0 a2.1.2.2.1) then
                    rec a2.1.1 (addK .i64 a2.1.2.1 1) a2.1.2.2.1 a2.2.1
                  else
                  kR [] a2.1.2.1 4
                else
                kR [] a2.1.2.1 4
              else
              none
            else
            kR [] a2.1.2.1 4
          else
          bif (ltI a2.1.2.1 (lenI a2.1.1)) then
            bif (inI a2.1.1 a2.1.2.1) then
              bif (eqI (byteAt a2.1.1 a2.1.2.1) 40) then
                bif (eqI a2.1.2.2.2.1 (subK .i64 (lenI a2.2.1) 1)) then
                  bif (inI a2.1.1 (subK .i64 a2.1.2.1 1)) then
                    bif (!(eqI (byteAt a2.1.1 (subK .i64 a2.1.2.1 1)) 41)) then
                      rec a2.1.1 (addK .i64 a2.1.2.1 1) a2.1.2.2.2.1 a2.2.1
                    else
                    bif (ltI a2.1.2.1 (lenI a2.1.1)) then
                      bif (inI a2.1.1 a2.1.2.1) then
                        bif (eqI (byteAt a2.1.1 a2.1.2.1) 32) then
                          bif (leI 0 a2.1.2.2.1) then
                            rec a2.1.1 (addK .i64 a2.1.2.1 1) a2.1.2.2.1 a2.2.1
                          else
                          kR [] a2.1.2.1 4
                        else
                        kR [] a2.1.2.1 4
                      else
                      none
                    else
                    kR [] a2.1.2.1 4
                  else
                  none
                else
                bif (ltI a2.1.2.1 (lenI a2.1.1)) then
                  bif (inI a2.1.1 a2.1.2.1) then
                    bif (eqI (byteAt a2.1.1 a2.1.2.1) 32) then
                      bif (leI 0 a2.1.2.2.1) then
                        rec a2.1.1 (addK .i64 a2.1.2.1 1) a2.1.2.2.1 a2.2.1
                      else
                      kR [] a2.1.2.1 4
                    else
                    kR [] a2.1.2.1 4
                  else
                  none
                else
                kR [] a2.1.2.1 4
              else
              bif (ltI a2.1.2.1 (lenI a2.1.1)) then
                bif (inI a2.1.1 a2.1.2.1) then
                  bif (eqI (byteAt a2.1.1 a2.1.2.1) 32) then
                    bif (leI 0 a2.1.2.2.1) then
                      rec a2.1.1 (addK .i64 a2.1.2.1 1) a2.1.2.2.1 a2.2.1
                    else
                    kR [] a2.1.2.1 4
                  else
                  kR [] a2.1.2.1 4
                else
                none
              else
              kR [] a2.1.2.1 4
            else
            none
          else
          bif (ltI a2.1.2.1 (lenI a2.1.1)) then
            bif (inI a2.1.1 a2.1.2.1) then
              bif (eqI (byteAt a2.1.1 a2.1.2.1) 32) then
                bif (leI 0 a2.1.2.2.1) then
                  rec a2.1.1 (addK .i64 a2.1.2.1 1) a2.1.2.2.1 a2.2.1
                else
                kR [] a2.1.2.1 4
              else
              kR [] a2.1.2.1 4
            else
            none
          else
          kR [] a2.1.2.1 4) (fun b2 =>
          kR b2.1.1 b2.1.2.1 b2.1.2.2.1)
    else
    none
def lp8_2 : Nat → (List UInt8) → Int → Int → (List (Int × Int × Int × Int × Unit)) → Option (pa8_2.den ⊕ pb8_2.den)
  | 0, _, _, _, _ => none
  | n + 1, v0, v1, v2, v3 => st8_2 (lp8_2 n) (fun e0 => some (.inl ((), (e0, ())))) (fun r0 r1 r2 => some (.inr ((r0, r1, r2, ()), ()))) v0 v1 v2 v3
noncomputable def ls8_2 : LoopSum := loopBy k8_2 p8_2 pa8_2 pb8_2 (.exit 0) (fun v => lp8_2 fuelN v.1.1 v.1.2.1 v.1.2.2.1 v.2.1) 12
def fn8 (x0 : List UInt8) : Option ((List (Int × Int × Int × Int × Unit)) × Int × Int × Unit) :=
  obind (lp8_2 fuelN x0 0 (-1) []) fun y0 =>
    osum y0 (fun a1 =>
      bif (inI a1.2.1 0) then
        bif (ltL (natI 0) a1.2.1) then
          obind (fn10 a1.2.1 (nthN a1.2.1 (0, (0, (0, (0, ())))) (natI 0)).2.2.1) fun y2 =>
            bif (!y2.1) then
              some ([], (0, (14, ())))
            else
            some (a1.2.1, (0, (0, ())))
        else
        none
      else
      none) (fun b1 =>
      some (b1.1.1, (b1.1.2.1, (b1.1.2.2.1, ()))))
def sum8 : Sum := (⟨[.str], [(.list (.pair (.int .i64) (.pair (.int .i64) (.pair (.int .i64) (.pair (.int .i64) .unit)))), false), (.int .i64, false), (.int .i64, false)], fun x => fn8 x.1⟩ : Sum)
noncomputable def env8 : Env := envOf Tryd.prog tt 8 [(10, sum10), (16, sum16)] [(8, k8_8), (2, k8_2)] [(8, ls8_8), (2, ls8_2)]
def sT8_8 {γ : Type} (a : p8_8.den → Option γ) (b : pa8_8.den → Option γ) (c : pb8_8.den → Option γ) (v : p8_8.den) : Option γ := st8_8 (fun v0 v1 v2 v3 v4 => a ((v0, v1, v2, v3, ()), (v4, ()))) (fun e0 e1 e2 e3 e4 => b ((e0, e1, e2, e3, ()), (e4, ()))) (fun r0 r1 r2 => c ((r0, r1, r2, ()), ())) v.1.1 v.1.2.1 v.1.2.2.1 v.1.2.2.2.1 v.2.1
theorem ok8_8 : LoopOk env8 8 c8_8 ls8_8 := lpS (sT8_8) (lp := fun n (v : p8_8.den) => lp8_8 n v.1.1 v.1.2.1 v.1.2.2.1 v.1.2.2.2.1 v.2.1) (by kernel_rfl) (fun _ => rfl) (fun _ _ => rfl) (fun d n K v => by kernel_rfl) (by intros; simp only [sT8_8, st8_8, obind_cond, obind_none, obind_some, obind_obind, obind_osum])
def sT8_2 {γ : Type} (a : p8_2.den → Option γ) (b : pa8_2.den → Option γ) (c : pb8_2.den → Option γ) (v : p8_2.den) : Option γ := st8_2 (fun v0 v1 v2 v3 => a ((v0, v1, v2, ()), (v3, ()))) (fun e0 => b ((), (e0, ()))) (fun r0 r1 r2 => c ((r0, r1, r2, ()), ())) v.1.1 v.1.2.1 v.1.2.2.1 v.2.1
theorem ok8_2 : LoopOk env8 8 c8_2 ls8_2 := lpS (sT8_2) (lp := fun n (v : p8_2.den) => lp8_2 n v.1.1 v.1.2.1 v.1.2.2.1 v.2.1) (by kernel_rfl) (fun _ => rfl) (fun _ _ => rfl) (fun d n K v => by kernel_rfl) (by intros; simp only [sT8_2, st8_2, obind_cond, obind_none, obind_some, obind_obind, obind_osum])
theorem lat8 : loopsAt b8 = [c8_8, c8_2] := by kernel_rfl
theorem lok8 : loopsOk env8 8 b8 := loopsOk_at b8 (fun _ => rfl) (by rw [lat8]; exact (aC ⟨fL (by kernel_rfl) (ok8_8), (aC ⟨fL (by kernel_rfl) (ok8_2), aN⟩)⟩))
theorem env8_ok : EnvOk env8 := envOf_ok tok mixed noGor (sg := [(10, sum10), (16, sum16)]) (aC ⟨(sum10_ok), (aC ⟨(sum16_ok), aN⟩)⟩) (fn := Tryd.f8) (c := b8) (by kernel_rfl) (by kernel_rfl) (lok8) rf_ok chk_ok
theorem sum8_ok : SumOk Tryd.prog 8 sum8 := sumR env8_ok (by decide) fun x => by kernel_rfl

/-! ### quillwort/quillwortlaw11.SameTree -/
noncomputable def b9 : Code := (Tryd.f9.body).getD .skip
noncomputable def c9_4 : Code := cA (cA (cB (cA (cB (cB (b9))))))
def k9_4 : Keep := ⟨[0, 1, 5, 100004], [], [], [], [4], []⟩
def p9_4 : SP := ⟨us [.v (.list (.pair (.int .i64) (.pair (.int .i64) (.pair (.int .i64) (.pair (.int .i64) .unit))))), .v (.list (.pair (.int .i64) (.pair (.int .i64) (.pair (.int .i64) (.pair (.int .i64) .unit))))), .u, .u, .u, .v (.int .i64)] 20, []⟩
def pa9_4 : SP := ⟨us [] 26, []⟩
def pb9_4 : SP := ⟨us [.u, .u, .u, .u, .v .bool] 21, []⟩
def st9_4 {γ : Type} (rec : (List (Int × Int × Int × Int × Unit)) → (List (Int × Int × Int × Int × Unit)) → Int → Option γ) (kE : Option γ) (kR : Bool → Option γ) (v0 : List (Int × Int × Int × Int × Unit)) (v1 : List (Int × Int × Int × Int × Unit)) (v2 : Int) : Option γ :=
  bif (ltI v2 (lenI v0)) then
    bif (inI v0 v2) then
      bif (inI v1 v2) then
        bif (!((eqI (getI v0 (0, (0, (0, (0, ())))) v2).1 (getI v1 (0, (0, (0, (0, ())))) v2).1) && ((eqI (getI v0 (0, (0, (0, (0, ())))) v2).2.1 (getI v1 (0, (0, (0, (0, ())))) v2).2.1) && ((eqI (getI v0 (0, (0, (0, (0, ())))) v2).2.2.1 (getI v1 (0, (0, (0, (0, ())))) v2).2.2.1) && ((eqI (getI v0 (0, (0, (0, (0, ())))) v2).2.2.2.1 (getI v1 (0, (0, (0, (0, ())))) v2).2.2.2.1) && true))))) then
          kR false
        else
        rec v0 v1 (addK .i64 v2 1)
      else
      none
    else
    none
  else
  kE 
def lp9_4 : Nat → (List (Int × Int × Int × Int × Unit)) → (List (Int × Int × Int × Int × Unit)) → Int → Option (pa9_4.den ⊕ pb9_4.den)
  | 0, _, _, _ => none
  | n + 1, v0, v1, v2 => st9_4 (lp9_4 n) (some (.inl ((), ()))) (fun r0 => some (.inr ((r0, ()), ()))) v0 v1 v2
noncomputable def ls9_4 : LoopSum := loopBy k9_4 p9_4 pa9_4 pb9_4 (.exit 0) (fun v => lp9_4 fuelN v.1.1 v.1.2.1 v.1.2.2.1) 6
def fn9 (x0 : List (Int × Int × Int × Int × Unit)) (x1 : List (Int × Int × Int × Int × Unit)) : Option (Bool × Unit) :=
  bif (!(eqI (lenI x0) (lenI x1))) then
    some (false, ())
  else
  obind (lp9_4 fuelN x0 x1 0) fun y0 =>
    osum y0 (fun a1 =>
      some (true, ())) (fun b1 =>
      some (b1.1.1, ()))
def sum9 : Sum := (⟨[.list (.pair (.int .i64) (.pair (.int .i64) (.pair (.int .i64) (.pair (.int .i64) .unit)))), .list (.pair (.int .i64) (.pair (.int .i64) (.pair (.int .i64) (.pair (.int .i64) .unit))))], [(.bool, false)], fun x => fn9 x.1 x.2.1⟩ : Sum)
noncomputable def env9 : Env := envOf Tryd.prog tt 9 [] [(4, k9_4)] [(4, ls9_4)]
def sT9_4 {γ : Type} (a : p9_4.den → Option γ) (b : pa9_4.den → Option γ) (c : pb9_4.den → Option γ) (v : p9_4.den) : Option γ := st9_4 (fun v0 v1 v2 => a ((v0, v1, v2, ()), ())) (b ((), ())) (fun r0 => c ((r0, ()), ())) v.1.1 v.1.2.1 v.1.2.2.1
theorem ok9_4 : LoopOk env9 9 c9_4 ls9_4 := lpS (sT9_4) (lp := fun n (v : p9_4.den) => lp9_4 n v.1.1 v.1.2.1 v.1.2.2.1) (by kernel_rfl) (fun _ => rfl) (fun _ _ => rfl) (fun d n K v => by kernel_rfl) (by intros; simp only [sT9_4, st9_4, obind_cond, obind_none, obind_some, obind_obind, obind_osum])
theorem lat9 : loopsAt b9 = [c9_4] := by kernel_rfl
theorem lok9 : loopsOk env9 9 b9 := loopsOk_at b9 (fun _ => rfl) (by rw [lat9]; exact (aC ⟨fL (by kernel_rfl) (ok9_4), aN⟩))
theorem env9_ok : EnvOk env9 := envOf_ok tok mixed noGor (sg := []) aN (fn := Tryd.f9) (c := b9) (by kernel_rfl) (by kernel_rfl) (lok9) rf_ok chk_ok
theorem sum9_ok : SumOk Tryd.prog 9 sum9 := sumR env9_ok (by decide) fun x => by kernel_rfl

/-! ### quillwort/quillwortlaw11.TreeShows -/
def fn3 (x0 : List (Int × Int × Int × Int × Unit)) : Option (Bool × Unit) :=
  bif (ltI 40 (lenI x0)) then
    some (true, ())
  else
  obind (fn5 x0) fun y0 =>
    bif (eqI (lenI x0) 0) then
      some ((eqS y0.1 []), ())
    else
    bif (inI x0 0) then
      obind (fn6 x0 (getI x0 (0, (0, (0, (0, ())))) 0).2.2.1) fun y1 =>
        bif (!y1.1) then
          some ((eqS y0.1 []), ())
        else
        obind (fn7 x0 0) fun y2 =>
          bif (!(eqS y0.1 y2.1)) then
            some (false, ())
          else
          bif (inI x0 0) then
            bif (ltI 1000000 (getI x0 (0, (0, (0, (0, ())))) 0).2.2.1) then
              some (true, ())
            else
            obind (fn8 y0.1) fun y3 =>
              bif (eqI y3.2.2.1 0) then
                bif (eqI y3.2.1 0) then
                  obind (fn9 y3.1 x0) fun y4 =>
                    some (y4.1, ())
                else
                some (false, ())
              else
              some (false, ())
          else
          none
    else
    none
def sum3 : Sum := (⟨[.list (.pair (.int .i64) (.pair (.int .i64) (.pair (.int .i64) (.pair (.int .i64) .unit))))], [(.bool, false)], fun x => fn3 x.1⟩ : Sum)
noncomputable def env3 : Env := envOf Tryd.prog tt 3 [(4, sumAwake), (5, sum5), (6, sum6), (7, sum7), (8, sum8), (9, sum9)] [] []
theorem env3_ok : EnvOk env3 := envOf_ok tok mixed noGor (sg := [(4, sumAwake), (5, sum5), (6, sum6), (7, sum7), (8, sum8), (9, sum9)]) (aC ⟨(sumAwake_ok), (aC ⟨(sum5_ok), (aC ⟨(sum6_ok), (aC ⟨(sum7_ok), (aC ⟨(sum8_ok), (aC ⟨(sum9_ok), aN⟩)⟩)⟩)⟩)⟩)⟩) (fn := Tryd.f3) (c := (Tryd.f3.body).getD .skip) (by kernel_rfl) (by kernel_rfl) (loopsOk_none (fun _ => rfl) (fun _ => rfl) _) rf_ok chk_ok
theorem sum3_ok : SumOk Tryd.prog 3 sum3 := sumR env3_ok (by decide) fun x => by kernel_rfl

end Go.Proofs.YtnmaceljkegenaaDoor
