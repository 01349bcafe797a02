/-
  The plain functions of some functions of the program, and that they are computed.
-/
import Derived.Test.YtgcbehapggfhmaaGreatDoorE
import Derived.Test.YtgcbehapggfhmaaGreatDoorKa
namespace Go.Proofs.YtgcbehapggfhmaaGreatDoor
open Go.RowKit
set_option linter.unusedVariables false
set_option linter.unusedSimpArgs false
set_option maxRecDepth 100000


/-! ### quillwort/quillwortref23.Common -/
noncomputable def b6 : Code := (Tryz.f6.body).getD .skip
noncomputable def c6_8 : Code := cA (cA (cB (cA (cA (cA (cB (cA (cA (cB (cA (cB (cB (cB (b6))))))))))))))
noncomputable def c6_5 : Code := cA (cA (cB (cA (cB (cB (cB (b6)))))))
def k6_8 : Keep := ⟨[0, 3, 4, 5, 100008], [], [0, 4], [], [2], []⟩
def k6_5 : Keep := ⟨[0, 3, 4, 100005], [], [3], [], [2], []⟩
def p6_8 : SP := ⟨us [.v (.list .str), .u, .u, .v .str, .v (.int .i64), .v (.int .i64)] 45, []⟩
def pa6_8 : SP := ⟨us [.v (.list .str), .u, .u, .u, .v (.int .i64)] 46, []⟩
def pb6_8 : SP := ⟨us [.u, .u, .v .str] 48, []⟩
def st6_8 {γ : Type} (rec : (List (List UInt8)) → (List UInt8) → Int → Int → Option γ) (kE : (List (List UInt8)) → Int → Option γ) (kR : (List UInt8) → Option γ) (v0 : List (List UInt8)) (v1 : List UInt8) (v2 : Int) (v3 : Int) : Option γ :=
  bif (ltI v3 (lenI v0)) then
    bif (inI v0 v3) then
      bif (ltI (lenI (getI v0 [] v3)) v2) then
        kR v1
      else
      bif (inI v0 v3) then
        bif (partI (lenI (getI v0 [] v3)) 0 v2) then
          bif (inI v0 0) then
            bif (partI (lenI (getI v0 [] 0)) 0 v2) then
              bif (!(eqS (sub (getI v0 [] v3) 0 v2) (sub (getI v0 [] 0) 0 v2))) then
                kR v1
              else
              rec v0 v1 v2 (addK .i64 v3 1)
            else
            none
          else
          none
        else
        none
      else
      none
    else
    none
  else
  kE v0 v2
def lp6_8 : Nat → (List (List UInt8)) → (List UInt8) → Int → Int → Option (pa6_8.den ⊕ pb6_8.den)
  | 0, _, _, _, _ => none
  | n + 1, v0, v1, v2, v3 => st6_8 (lp6_8 n) (fun e0 e1 => some (.inl ((e0, e1, ()), ()))) (fun r0 => some (.inr ((r0, ()), ()))) v0 v1 v2 v3
noncomputable def ls6_8 : LoopSum := loopBy k6_8 p6_8 pa6_8 pb6_8 (.exit 2) (fun v => lp6_8 fuelN v.1.1 v.1.2.1 v.1.2.2.1 v.1.2.2.2.1) 6
def p6_5 : SP := ⟨us [.v (.list .str), .u, .u, .v .str, .v (.int .i64)] 46, []⟩
def pa6_5 : SP := ⟨us [.u, .u, .u, .v .str] 47, []⟩
def pb6_5 : SP := ⟨us [.u, .u, .v .str] 48, []⟩
def st6_5 {γ : Type} (rec : (List (List UInt8)) → (List UInt8) → Int → Option γ) (kE : (List UInt8) → Option γ) (kR : (List UInt8) → Option γ) (v0 : List (List UInt8)) (v1 : List UInt8) (v2 : Int) : Option γ :=
  bif (inI v0 0) then
    bif (leI v2 (lenI (getI v0 [] 0))) then
      obind (lp6_8 fuelN v0 v1 v2 0) fun y0 =>
        osum y0 (fun a1 =>
          bif (inI a1.1.1 0) then
            bif (partI (lenI (getI a1.1.1 [] 0)) 0 a1.1.2.1) then
              rec a1.1.1 (sub (getI a1.1.1 [] 0) 0 a1.1.2.1) (addK .i64 a1.1.2.1 1)
            else
            none
          else
          none) (fun b1 =>
          kR b1.1.1)
    else
    kE v1
  else
  none
def lp6_5 : Nat → (List (List UInt8)) → (List UInt8) → Int → Option (pa6_5.den ⊕ pb6_5.den)
  | 0, _, _, _ => none
  | n + 1, v0, v1, v2 => st6_5 (lp6_5 n) (fun e0 => some (.inl ((e0, ()), ()))) (fun r0 => some (.inr ((r0, ()), ()))) v0 v1 v2
noncomputable def ls6_5 : LoopSum := loopBy k6_5 p6_5 pa6_5 pb6_5 (.exit 0) (fun v => lp6_5 fuelN v.1.1 v.1.2.1 v.1.2.2.1) 12
def fn6 (x0 : List (List UInt8)) : Option ((List UInt8) × Unit) :=
  bif (eqI (lenI x0) 0) then
    some ([], ())
  else
  obind (lp6_5 fuelN x0 [] 1) fun y0 =>
    osum y0 (fun a1 =>
      some (a1.1.1, ())) (fun b1 =>
      some (b1.1.1, ()))
def sum6 : Sum := (⟨[.list .str], [(.str, false)], fun x => fn6 x.1⟩ : Sum)
noncomputable def env6 : Env := envOf Tryz.prog tt 6 [] [(8, k6_8), (5, k6_5)] [(8, ls6_8), (5, ls6_5)]
theorem step6_8 {R : Type} (d : Nat) (n : Nat) (K : Ex → St → Option R) (v0 : List (List UInt8)) (v1 : List UInt8) (v2 : Int) (v3 : Int) :
    iter (some k6_8) (runD env6 (d + 6) 6 c6_8) (n + 1) (mkSt p6_8 ((v0, v1, v2, v3, ()), ())) K =
      st6_8 (fun v0 v1 v2 v3 => iter (some k6_8) (runD env6 (d + 6) 6 c6_8) n (mkSt p6_8 ((v0, v1, v2, v3, ()), ())) K) (fun e0 e1 => K (.exit 2) (mkSt pa6_8 ((e0, e1, ()), ()))) (fun r0 => K .ret (mkSt pb6_8 ((r0, ()), ()))) v0 v1 v2 v3 := by kernel_rfl
theorem it6_8 {R : Type} (d : Nat) (K : Ex → St → Option R) : ∀ (n : Nat) (v0 : List (List UInt8)) (v1 : List UInt8) (v2 : Int) (v3 : Int),
    iter (some k6_8) (runD env6 (d + 6) 6 c6_8) n (mkSt p6_8 ((v0, v1, v2, v3, ()), ())) K = obind (lp6_8 n v0 v1 v2 v3) fun o => osum o (fun a => K (.exit 2) (mkSt pa6_8 a)) fun b => K .ret (mkSt pb6_8 b)
  | 0, _, _, _, _ => rfl
  | n + 1, v0, v1, v2, v3 => by
    rw [step6_8]
    simp only [it6_8 d K n, lp6_8, st6_8, obind_cond, obind_none, obind_some, obind_obind, obind_osum]
    try simp only [osum]
theorem ok6_8 : LoopOk env6 6 c6_8 ls6_8 := loopBy_ok (by kernel_rfl) fun R d K v o h => ⟨fuelN, (it6_8 d K fuelN (v.1.1) (v.1.2.1) (v.1.2.2.1) (v.1.2.2.2.1)).trans (congrArg (fun o => obind o _) h)⟩
theorem step6_5 {R : Type} (d : Nat) (n : Nat) (K : Ex → St → Option R) (v0 : List (List UInt8)) (v1 : List UInt8) (v2 : Int) :
    iter (some k6_5) (runD env6 (d + 12) 6 c6_5) (n + 1) (mkSt p6_5 ((v0, v1, v2, ()), ())) K =
      st6_5 (fun v0 v1 v2 => iter (some k6_5) (runD env6 (d + 12) 6 c6_5) n (mkSt p6_5 ((v0, v1, v2, ()), ())) K) (fun e0 => K (.exit 0) (mkSt pa6_5 ((e0, ()), ()))) (fun r0 => K .ret (mkSt pb6_5 ((r0, ()), ()))) v0 v1 v2 := by kernel_rfl
theorem it6_5 {R : Type} (d : Nat) (K : Ex → St → Option R) : ∀ (n : Nat) (v0 : List (List UInt8)) (v1 : List UInt8) (v2 : Int),
    iter (some k6_5) (runD env6 (d + 12) 6 c6_5) n (mkSt p6_5 ((v0, v1, v2, ()), ())) K = obind (lp6_5 n v0 v1 v2) fun o => osum o (fun a => K (.exit 0) (mkSt pa6_5 a)) fun b => K .ret (mkSt pb6_5 b)
  | 0, _, _, _ => rfl
  | n + 1, v0, v1, v2 => by
    rw [step6_5]
    simp only [it6_5 d K n, lp6_5, st6_5, obind_cond, obind_none, obind_some, obind_obind, obind_osum]
    try simp only [osum]
theorem ok6_5 : LoopOk env6 6 c6_5 ls6_5 := loopBy_ok (by kernel_rfl) fun R d K v o h => ⟨fuelN, (it6_5 d K fuelN (v.1.1) (v.1.2.1) (v.1.2.2.1)).trans (congrArg (fun o => obind o _) h)⟩
theorem run6 (x0 : List (List UInt8)) : runF env6 6 [.list .str] [(.str, false)] (x0, ()) = fn6 x0 := by kernel_rfl
theorem lat6 : loopsAt b6 = [c6_8, c6_5] := by kernel_rfl
theorem lok6 : loopsOk env6 6 b6 := loopsOk_at b6 (fun _ => rfl) (by rw [lat6]; exact (List.forall_mem_cons.2 ⟨(fun L h => by rw [show env6.lp 6 (firstRegion c6_8) = some (ls6_8) by kernel_rfl] at h; cases h; exact ok6_8), (List.forall_mem_cons.2 ⟨(fun L h => by rw [show env6.lp 6 (firstRegion c6_5) = some (ls6_5) by kernel_rfl] at h; cases h; exact ok6_5), (fun _ h => absurd h List.not_mem_nil)⟩)⟩))
theorem env6_ok : EnvOk env6 := envOf_ok tok mixed noGor (sg := []) (fun _ h => absurd h List.not_mem_nil) (fn := Tryz.f6) (c := b6) (by kernel_rfl) (by kernel_rfl) lok6 rf_ok chk_ok
theorem sum6_ok : SumOk Tryz.prog 6 sum6 := sum_of_run env6_ok (by decide) fun x y h => (run6 (x.1)).trans h

/-! ### quillwort/insert.Common -/
noncomputable def b5 : Code := (Tryz.f5.body).getD .skip
noncomputable def b5_12 : Code := (Tryz.f12.body).getD .skip
noncomputable def c5_7 : Code := cA (cA (cB (cA (cB (cA (cB (cA (cB (cB (cB (cA (cB (b5)))))))))))))
noncomputable def c5_12_1 : Code := cA (cA (cB (b5_12)))
def k5_7 : Keep := ⟨[3, 4, 16, 17, 100007], [], [], [], [2], []⟩
def k5_12_1 : Keep := ⟨[0, 1, 3, 13000001], [], [], [], [], []⟩
def kr5_6 : Keep := ⟨[2, 3], [], [], [], [], []⟩
def p5_7 : SQ := ⟨us [.u, .u, .u, .ptr 1000003 0, .v .str, .u, .u, .u, .u, .u, .u, .u, .u, .u, .u, .u, .v (.int .i64), .v (.int .i64)] 20, [[.yld 1700014], [.yld 1700014, .ptr 2000001 0, .u, .v (.int .i64), .v (.int .i64), .v (.list .str), .v (.int .i64), .v .bool, .u, .u, .yld 1700014, .v (.list .str), .v (.int .i64), .cp .str, .v .str, .u, .u], us [.u, .u, .v .str, .ptr 1000003 0] 34, [.yld 1700014], []], [.lp 1700014 5 (us [.u, .u, .v .str, .ptr 1000003 0] 34) [14] 6 2 none, .box 2000001 22 [.v (.list .str)], .box 1000003 9 [.v .str]]⟩
def pa5_7 : SQ := ⟨us [] 38, [[.yld 1700014], [.yld 1700014, .ptr 2000001 0, .u, .v (.int .i64), .v (.int .i64), .v (.list .str), .v (.int .i64), .v .bool, .u, .u, .yld 1700014, .v (.list .str), .v (.int .i64), .cp .str, .v .str, .u, .u], us [.u, .u, .v .str, .ptr 1000003 0] 34, [.yld 1700014], []], [.lp 1700014 5 (us [.u, .u, .v .str, .ptr 1000003 0] 34) [14] 6 2 none, .box 2000001 22 [.v (.list .str)], .box 1000003 9 [.v .str]]⟩
def pb5_7 : SQ := ⟨us [] 38, [[.yld 1700014], [.yld 1700014, .ptr 2000001 0, .u, .v (.int .i64), .v (.int .i64), .v (.list .str), .v (.int .i64), .v .bool, .u, .u, .yld 1700014, .v (.list .str), .v (.int .i64), .cp .str, .v .str, .u, .u], us [.u, .u, .v .str, .ptr 1000003 0] 34, [.yld 1700014], []], [.lp 1700014 5 (us [.u, .u, .v .str, .ptr 1000003 0] 34) [14] 6 2 none, .box 2000001 22 [.v (.list .str)], .box 1000003 9 [.v .str]]⟩
def st5_7 {γ : Type} (rec : (List UInt8) → Int → Int → Int → Int → (List (List UInt8)) → Int → Bool → (List (List UInt8)) → Int → (List UInt8) → (List UInt8) → (List UInt8) → (List UInt8) → (List (List UInt8)) → (List UInt8) → Option γ) (kE : Int → Int → (List (List UInt8)) → Int → Bool → (List (List UInt8)) → Int → (List UInt8) → (List UInt8) → (List UInt8) → (List UInt8) → (List (List UInt8)) → (List UInt8) → Option γ) (kR : Int → Int → (List (List UInt8)) → Int → Bool → (List (List UInt8)) → Int → (List UInt8) → (List UInt8) → (List UInt8) → (List UInt8) → (List (List UInt8)) → (List UInt8) → Option γ) (v0 : List UInt8) (v1 : Int) (v2 : Int) (v3 : Int) (v4 : Int) (v5 : List (List UInt8)) (v6 : Int) (v7 : Bool) (v8 : List (List UInt8)) (v9 : Int) (v10 : List UInt8) (v11 : List UInt8) (v12 : List UInt8) (v13 : List UInt8) (v14 : List (List UInt8)) (v15 : List UInt8) : Option γ :=
  bif (ltI v2 v1) then
    bif (eqI v2 (lenI v0)) then
      bif (partI (lenI v15) 0 v2) then
        kE v3 v4 v5 v6 v7 v8 v9 v10 v11 v12 v13 v14 (sub v15 0 v2)
      else
      none
    else
    bif (inI v0 v2) then
      bif (inI v15 v2) then
        bif (!(eqI (byteAt v0 v2) (byteAt v15 v2))) then
          bif (partI (lenI v15) 0 v2) then
            kE v3 v4 v5 v6 v7 v8 v9 v10 v11 v12 v13 v14 (sub v15 0 v2)
          else
          none
        else
        rec v0 v1 (addK .i64 v2 1) v3 v4 v5 v6 v7 v8 v9 v10 v11 v12 v13 v14 v15
      else
      none
    else
    none
  else
  kR v3 v4 v5 v6 v7 v8 v9 v10 v11 v12 v13 v14 v15
def lp5_7 : Nat → (List UInt8) → Int → Int → Int → Int → (List (List UInt8)) → Int → Bool → (List (List UInt8)) → Int → (List UInt8) → (List UInt8) → (List UInt8) → (List UInt8) → (List (List UInt8)) → (List UInt8) → Option (pa5_7.den ⊕ pb5_7.den)
  | 0, _, _, _, _, _, _, _, _, _, _, _, _, _, _, _, _ => none
  | n + 1, v0, v1, v2, v3, v4, v5, v6, v7, v8, v9, v10, v11, v12, v13, v14, v15 => st5_7 (lp5_7 n) (fun e0 e1 e2 e3 e4 e5 e6 e7 e8 e9 e10 e11 e12 => some (.inl ((), ((), (e0, e1, e2, e3, e4, e5, e6, e7, e8, ()), (e9, ()), (), (), ()), ((e10, ()), (e11, ()), (e12, ()), ())))) (fun r0 r1 r2 r3 r4 r5 r6 r7 r8 r9 r10 r11 r12 => some (.inr ((), ((), (r0, r1, r2, r3, r4, r5, r6, r7, r8, ()), (r9, ()), (), (), ()), ((r10, ()), (r11, ()), (r12, ()), ())))) v0 v1 v2 v3 v4 v5 v6 v7 v8 v9 v10 v11 v12 v13 v14 v15
noncomputable def ls5_7 : LoopSum := loopBy2 k5_7 p5_7 pa5_7 pb5_7 (.exit 1) (fun v => lp5_7 fuelN v.1.1 v.1.2.1 v.1.2.2.1 v.2.1.2.1.1 v.2.1.2.1.2.1 v.2.1.2.1.2.2.1 v.2.1.2.1.2.2.2.1 v.2.1.2.1.2.2.2.2.1 v.2.1.2.1.2.2.2.2.2.1 v.2.1.2.1.2.2.2.2.2.2.1 v.2.1.2.1.2.2.2.2.2.2.2.1 v.2.1.2.1.2.2.2.2.2.2.2.2.1 v.2.1.2.2.1.1 v.2.2.1.1 v.2.2.2.1.1 v.2.2.2.2.1.1) 6 (.exit 2)
def p5_12_1 : SQ := ⟨us [.yld 1700014, .ptr 2000001 0, .u, .v (.int .i64)] 13, [us [.u, .u, .v .str, .ptr 1000003 0] 34, [.yld 1700014], []], [.lp 1700014 5 (us [.u, .u, .v .str, .ptr 1000003 0] 34) [14] 6 0 none, .box 2000001 22 [.v (.list .str)], .box 1000003 9 [.v .str]]⟩
def pa5_12_1 : SQ := ⟨us [] 17, [us [.u, .u, .v .str, .ptr 1000003 0] 34, [.yld 1700014], []], [.lp 1700014 5 (us [.u, .u, .v .str, .ptr 1000003 0] 34) [14] 6 0 none, .box 2000001 22 [.v (.list .str)], .box 1000003 9 [.v .str]]⟩
def pb5_12_1 : SQ := ⟨us [] 17, [us [.u, .u, .v .str, .ptr 1000003 0] 34, [.yld 1700014], []], []⟩
def st5_12_1 {γ : Type} (rec : Int → (List UInt8) → (List UInt8) → (List (List UInt8)) → (List UInt8) → Option γ) (kE : (List UInt8) → (List UInt8) → (List (List UInt8)) → (List UInt8) → Option γ) (kR : (List UInt8) → Option γ) (v0 : Int) (v1 : List UInt8) (v2 : List UInt8) (v3 : List (List UInt8)) (v4 : List UInt8) : Option γ :=
  bif (ltI v0 (lenI v3)) then
    bif (inI v3 v0) then
      obind (lp5_7 fuelN (getI v3 [] v0) (lenI v4) 0 v0 v0 v3 (lenI v3) (ltI v0 (lenI v3)) v3 v0 (getI v3 [] v0) (getI v3 [] v0) v1 v2 v3 v4) fun y0 =>
        osum y0 (fun a1 =>
          rec (addK .i64 a1.2.1.2.1.1 1) a1.2.1.2.2.1.1 a1.2.2.1.1 a1.2.2.2.1.1 a1.2.2.2.2.1.1) (fun b1 =>
          rec (addK .i64 b1.2.1.2.1.1 1) b1.2.1.2.2.1.1 b1.2.2.1.1 b1.2.2.2.1.1 b1.2.2.2.2.1.1)
    else
    none
  else
  kE v1 v2 v3 v4
def lp5_12_1 : Nat → Int → (List UInt8) → (List UInt8) → (List (List UInt8)) → (List UInt8) → Option (pa5_12_1.den ⊕ pb5_12_1.den)
  | 0, _, _, _, _, _ => none
  | n + 1, v0, v1, v2, v3, v4 => st5_12_1 (lp5_12_1 n) (fun e0 e1 e2 e3 => some (.inl ((), ((e0, ()), (), (), ()), ((e1, ()), (e2, ()), (e3, ()), ())))) (fun r0 => some (.inr ((), ((r0, ()), (), (), ()), ()))) v0 v1 v2 v3 v4
noncomputable def ls5_12_1 : LoopSum := loopBy2 k5_12_1 p5_12_1 pa5_12_1 pb5_12_1 (.exit 0) (fun v => lp5_12_1 fuelN v.1.1 v.2.1.1.1 v.2.2.1.1 v.2.2.2.1.1 v.2.2.2.2.1.1) 12
def fn5 (x0 : List (List UInt8)) : Option ((List UInt8) × Unit) :=
  bif (eqI (lenI x0) 0) then
    some ([], ())
  else
  bif (inI x0 0) then
    obind (lp5_12_1 fuelN 1 [] [] x0 (getI x0 [] 0)) fun y0 =>
      osum y0 (fun a1 =>
        some (a1.2.2.2.2.1.1, ())) (fun b1 =>
        none)
  else
  none
def sum5 : Sum := (⟨[.list .str], [(.str, false)], fun x => fn5 x.1⟩ : Sum)
noncomputable def env5 : Env := envOf2 Tryz.prog tt [] [(5, 7, k5_7), (12, 1, k5_12_1), (5, 500006, kr5_6)] [(5, 7, ls5_7), (12, 1, ls5_12_1)] [5]
theorem step5_7 {R : Type} (d : Nat) (n : Nat) (K : Ex → St → Option R) (v0 : List UInt8) (v1 : Int) (v2 : Int) (v3 : Int) (v4 : Int) (v5 : List (List UInt8)) (v6 : Int) (v7 : Bool) (v8 : List (List UInt8)) (v9 : Int) (v10 : List UInt8) (v11 : List UInt8) (v12 : List UInt8) (v13 : List UInt8) (v14 : List (List UInt8)) (v15 : List UInt8) :
    iter (some k5_7) (runD env5 (d + 6) 5 c5_7) (n + 1) (mkSt2 p5_7 ((v0, v1, v2, ()), ((), (v3, v4, v5, v6, v7, v8, v9, v10, v11, ()), (v12, ()), (), (), ()), ((v13, ()), (v14, ()), (v15, ()), ()))) K =
      st5_7 (fun v0 v1 v2 v3 v4 v5 v6 v7 v8 v9 v10 v11 v12 v13 v14 v15 => iter (some k5_7) (runD env5 (d + 6) 5 c5_7) n (mkSt2 p5_7 ((v0, v1, v2, ()), ((), (v3, v4, v5, v6, v7, v8, v9, v10, v11, ()), (v12, ()), (), (), ()), ((v13, ()), (v14, ()), (v15, ()), ()))) K) (fun e0 e1 e2 e3 e4 e5 e6 e7 e8 e9 e10 e11 e12 => K (.exit 1) (mkSt2 pa5_7 ((), ((), (e0, e1, e2, e3, e4, e5, e6, e7, e8, ()), (e9, ()), (), (), ()), ((e10, ()), (e11, ()), (e12, ()), ())))) (fun r0 r1 r2 r3 r4 r5 r6 r7 r8 r9 r10 r11 r12 => K (.exit 2) (mkSt2 pb5_7 ((), ((), (r0, r1, r2, r3, r4, r5, r6, r7, r8, ()), (r9, ()), (), (), ()), ((r10, ()), (r11, ()), (r12, ()), ())))) v0 v1 v2 v3 v4 v5 v6 v7 v8 v9 v10 v11 v12 v13 v14 v15 := by kernel_rfl
theorem it5_7 {R : Type} (d : Nat) (K : Ex → St → Option R) : ∀ (n : Nat) (v0 : List UInt8) (v1 : Int) (v2 : Int) (v3 : Int) (v4 : Int) (v5 : List (List UInt8)) (v6 : Int) (v7 : Bool) (v8 : List (List UInt8)) (v9 : Int) (v10 : List UInt8) (v11 : List UInt8) (v12 : List UInt8) (v13 : List UInt8) (v14 : List (List UInt8)) (v15 : List UInt8),
    iter (some k5_7) (runD env5 (d + 6) 5 c5_7) n (mkSt2 p5_7 ((v0, v1, v2, ()), ((), (v3, v4, v5, v6, v7, v8, v9, v10, v11, ()), (v12, ()), (), (), ()), ((v13, ()), (v14, ()), (v15, ()), ()))) K = obind (lp5_7 n v0 v1 v2 v3 v4 v5 v6 v7 v8 v9 v10 v11 v12 v13 v14 v15) fun o => osum o (fun a => K (.exit 1) (mkSt2 pa5_7 a)) fun b => K (.exit 2) (mkSt2 pb5_7 b)
  | 0, _, _, _, _, _, _, _, _, _, _, _, _, _, _, _, _ => rfl
  | n + 1, v0, v1, v2, v3, v4, v5, v6, v7, v8, v9, v10, v11, v12, v13, v14, v15 => by
    rw [step5_7]
    simp only [it5_7 d K n, lp5_7, st5_7, obind_cond, obind_none, obind_some, obind_obind, obind_osum]
    try simp only [osum]
theorem ok5_7 : LoopOk env5 5 c5_7 ls5_7 := loopBy2_ok (by kernel_rfl) fun R d K v o h => ⟨fuelN, (it5_7 d K fuelN (v.1.1) (v.1.2.1) (v.1.2.2.1) (v.2.1.2.1.1) (v.2.1.2.1.2.1) (v.2.1.2.1.2.2.1) (v.2.1.2.1.2.2.2.1) (v.2.1.2.1.2.2.2.2.1) (v.2.1.2.1.2.2.2.2.2.1) (v.2.1.2.1.2.2.2.2.2.2.1) (v.2.1.2.1.2.2.2.2.2.2.2.1) (v.2.1.2.1.2.2.2.2.2.2.2.2.1) (v.2.1.2.2.1.1) (v.2.2.1.1) (v.2.2.2.1.1) (v.2.2.2.2.1.1)).trans (congrArg (fun o => obind o _) h)⟩
theorem step5_12_1 {R : Type} (d : Nat) (n : Nat) (K : Ex → St → Option R) (v0 : Int) (v1 : List UInt8) (v2 : List UInt8) (v3 : List (List UInt8)) (v4 : List UInt8) :
    iter (some k5_12_1) (runD env5 (d + 12) 12 c5_12_1) (n + 1) (mkSt2 p5_12_1 ((v0, ()), ((v1, ()), (), (), ()), ((v2, ()), (v3, ()), (v4, ()), ()))) K =
      st5_12_1 (fun v0 v1 v2 v3 v4 => iter (some k5_12_1) (runD env5 (d + 12) 12 c5_12_1) n (mkSt2 p5_12_1 ((v0, ()), ((v1, ()), (), (), ()), ((v2, ()), (v3, ()), (v4, ()), ()))) K) (fun e0 e1 e2 e3 => K (.exit 0) (mkSt2 pa5_12_1 ((), ((e0, ()), (), (), ()), ((e1, ()), (e2, ()), (e3, ()), ())))) (fun r0 => K .ret (mkSt2 pb5_12_1 ((), ((r0, ()), (), (), ()), ()))) v0 v1 v2 v3 v4 := by kernel_rfl
theorem it5_12_1 {R : Type} (d : Nat) (K : Ex → St → Option R) : ∀ (n : Nat) (v0 : Int) (v1 : List UInt8) (v2 : List UInt8) (v3 : List (List UInt8)) (v4 : List UInt8),
    iter (some k5_12_1) (runD env5 (d + 12) 12 c5_12_1) n (mkSt2 p5_12_1 ((v0, ()), ((v1, ()), (), (), ()), ((v2, ()), (v3, ()), (v4, ()), ()))) K = obind (lp5_12_1 n v0 v1 v2 v3 v4) fun o => osum o (fun a => K (.exit 0) (mkSt2 pa5_12_1 a)) fun b => K .ret (mkSt2 pb5_12_1 b)
  | 0, _, _, _, _, _ => rfl
  | n + 1, v0, v1, v2, v3, v4 => by
    rw [step5_12_1]
    simp only [it5_12_1 d K n, lp5_12_1, st5_12_1, obind_cond, obind_none, obind_some, obind_obind, obind_osum]
    try simp only [osum]
theorem ok5_12_1 : LoopOk env5 12 c5_12_1 ls5_12_1 := loopBy2_ok (by kernel_rfl) fun R d K v o h => ⟨fuelN, (it5_12_1 d K fuelN (v.1.1) (v.2.1.1.1) (v.2.2.1.1) (v.2.2.2.1.1) (v.2.2.2.2.1.1)).trans (congrArg (fun o => obind o _) h)⟩
theorem run5 (x0 : List (List UInt8)) : runF env5 5 [.list .str] [(.str, false)] (x0, ()) = fn5 x0 := by kernel_rfl
theorem lat5 : loopsAt b5 = [c5_7] := by kernel_rfl
theorem rat5 : rangesAt b5 = [(cA (cA (cB (cA (cB (cB (cB (cA (cB (b5))))))))), cB (cA (cB (cA (cB (cB (cB (cA (cB (b5))))))))))] := by kernel_rfl
theorem lok5 : loopsOk env5 5 b5 := loopsOk_at2 b5 (by rw [rat5]; exact (List.forall_mem_cons.2 ⟨(fun _ => (show rfTab 5 6 = some (cA (cA (cB (cA (cB (cB (cB (cA (cB (b5))))))))), cB (cA (cB (cA (cB (cB (cB (cA (cB (b5)))))))))) by kernel_rfl)), (fun _ h => absurd h List.not_mem_nil)⟩)) (by rw [lat5]; exact (List.forall_mem_cons.2 ⟨(fun L h => by rw [show env5.lp 5 (firstRegion c5_7) = some (ls5_7) by kernel_rfl] at h; cases h; exact ok5_7), (fun _ h => absurd h List.not_mem_nil)⟩))
theorem lat5_12 : loopsAt b5_12 = [c5_12_1] := by kernel_rfl
theorem lok5_12 : loopsOk env5 12 b5_12 := loopsOk_at b5_12 (fun _ => rfl) (by rw [lat5_12]; exact (List.forall_mem_cons.2 ⟨(fun L h => by rw [show env5.lp 12 (firstRegion c5_12_1) = some (ls5_12_1) by kernel_rfl] at h; cases h; exact ok5_12_1), (fun _ h => absurd h List.not_mem_nil)⟩))
theorem env5_ok : EnvOk env5 := envOf2_ok tok mixed noGor (sg := []) (fun _ h => absurd h List.not_mem_nil) [5, 12] (by kernel_rfl) (by kernel_rfl) (List.forall_mem_cons.2 ⟨⟨Tryz.f5, b5, by kernel_rfl, by kernel_rfl, lok5⟩, (List.forall_mem_cons.2 ⟨⟨Tryz.f12, b5_12, by kernel_rfl, by kernel_rfl, lok5_12⟩, (fun _ h => absurd h List.not_mem_nil)⟩)⟩) rf_ok chk_ok
theorem sum5_ok : SumOk Tryz.prog 5 sum5 := sum_of_run env5_ok (by decide) fun x y h => (run5 (x.1)).trans h

/-! ### quillwort/quillwortlaw23.InsertCommon -/
noncomputable def b3 : Code := (Tryz.f3.body).getD .skip
noncomputable def c3_6 : Code := cA (cA (cB (cA (cB (cB (cB (b3)))))))
def k3_6 : Keep := ⟨[0, 3, 100006], [], [0], [], [2], []⟩
def p3_6 : SP := ⟨us [.v (.list .str), .u, .u, .v (.int .i64)] 22, []⟩
def pa3_6 : SP := ⟨us [.v (.list .str)] 25, []⟩
def pb3_6 : SP := ⟨us [.u, .u, .v .bool] 23, []⟩
def st3_6 {γ : Type} (rec : (List (List UInt8)) → Int → Option γ) (kE : (List (List UInt8)) → Option γ) (kR : Bool → Option γ) (v0 : List (List UInt8)) (v1 : Int) : Option γ :=
  bif (ltI v1 (lenI v0)) then
    bif (inI v0 v1) then
      bif (ltI 40 (lenI (getI v0 [] v1))) then
        kR true
      else
      rec v0 (addK .i64 v1 1)
    else
    none
  else
  kE v0
def lp3_6 : Nat → (List (List UInt8)) → Int → Option (pa3_6.den ⊕ pb3_6.den)
  | 0, _, _ => none
  | n + 1, v0, v1 => st3_6 (lp3_6 n) (fun e0 => some (.inl ((e0, ()), ()))) (fun r0 => some (.inr ((r0, ()), ()))) v0 v1
noncomputable def ls3_6 : LoopSum := loopBy k3_6 p3_6 pa3_6 pb3_6 (.exit 0) (fun v => lp3_6 fuelN v.1.1 v.1.2.1) 6
def fn3 (x0 : List (List UInt8)) : Option (Bool × Unit) :=
  bif (ltI 20 (lenI x0)) then
    some (true, ())
  else
  obind (lp3_6 fuelN x0 0) fun y0 =>
    osum y0 (fun a1 =>
      obind (fn5 a1.1.1) fun y2 =>
        obind (fn6 a1.1.1) fun y3 =>
          some ((eqS y2.1 y3.1), ())) (fun b1 =>
      some (b1.1.1, ()))
def sum3 : Sum := (⟨[.list .str], [(.bool, false)], fun x => fn3 x.1⟩ : Sum)
noncomputable def env3 : Env := envOf Tryz.prog tt 3 [(4, sumAwake), (5, sum5), (6, sum6)] [(6, k3_6)] [(6, ls3_6)]
theorem step3_6 {R : Type} (d : Nat) (n : Nat) (K : Ex → St → Option R) (v0 : List (List UInt8)) (v1 : Int) :
    iter (some k3_6) (runD env3 (d + 6) 3 c3_6) (n + 1) (mkSt p3_6 ((v0, v1, ()), ())) K =
      st3_6 (fun v0 v1 => iter (some k3_6) (runD env3 (d + 6) 3 c3_6) n (mkSt p3_6 ((v0, v1, ()), ())) K) (fun e0 => K (.exit 0) (mkSt pa3_6 ((e0, ()), ()))) (fun r0 => K .ret (mkSt pb3_6 ((r0, ()), ()))) v0 v1 := by kernel_rfl
theorem it3_6 {R : Type} (d : Nat) (K : Ex → St → Option R) : ∀ (n : Nat) (v0 : List (List UInt8)) (v1 : Int),
    iter (some k3_6) (runD env3 (d + 6) 3 c3_6) n (mkSt p3_6 ((v0, v1, ()), ())) K = obind (lp3_6 n v0 v1) fun o => osum o (fun a => K (.exit 0) (mkSt pa3_6 a)) fun b => K .ret (mkSt pb3_6 b)
  | 0, _, _ => rfl
  | n + 1, v0, v1 => by
    rw [step3_6]
    simp only [it3_6 d K n, lp3_6, st3_6, obind_cond, obind_none, obind_some, obind_obind, obind_osum]
    try simp only [osum]
theorem ok3_6 : LoopOk env3 3 c3_6 ls3_6 := loopBy_ok (by kernel_rfl) fun R d K v o h => ⟨fuelN, (it3_6 d K fuelN (v.1.1) (v.1.2.1)).trans (congrArg (fun o => obind o _) h)⟩
theorem run3 (x0 : List (List UInt8)) : runF env3 3 [.list .str] [(.bool, false)] (x0, ()) = fn3 x0 := by kernel_rfl
theorem lat3 : loopsAt b3 = [c3_6] := by kernel_rfl
theorem lok3 : loopsOk env3 3 b3 := loopsOk_at b3 (fun _ => rfl) (by rw [lat3]; exact (List.forall_mem_cons.2 ⟨(fun L h => by rw [show env3.lp 3 (firstRegion c3_6) = some (ls3_6) by kernel_rfl] at h; cases h; exact ok3_6), (fun _ h => absurd h List.not_mem_nil)⟩))
theorem env3_ok : EnvOk env3 := envOf_ok tok mixed noGor (sg := [(4, sumAwake), (5, sum5), (6, sum6)]) (List.forall_mem_cons.2 ⟨(sumAwake_ok), (List.forall_mem_cons.2 ⟨(sum5_ok), (List.forall_mem_cons.2 ⟨(sum6_ok), (fun _ h => absurd h List.not_mem_nil)⟩)⟩)⟩) (fn := Tryz.f3) (c := b3) (by kernel_rfl) (by kernel_rfl) lok3 rf_ok chk_ok
theorem sum3_ok : SumOk Tryz.prog 3 sum3 := sum_of_run env3_ok (by decide) fun x y h => (run3 (x.1)).trans h

end Go.Proofs.YtgcbehapggfhmaaGreatDoor
