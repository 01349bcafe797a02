/-
  The plain functions of some functions of the program, and that they are computed.
-/
import Derived.Test.YtfeklnaeolangaaE
namespace Go.Proofs.Ytfeklnaeolangaa
open Go.RowKit
set_option linter.unusedVariables false
set_option linter.unusedSimpArgs false
set_option maxRecDepth 100000

def sumAwake : Sum := ⟨[], [(.bool, false)], fun _ => some (true, ())⟩
theorem sumAwake_ok : SumOk Try.prog 10 sumAwake := sum_of_run env0_ok (by decide) fun x y h => by
  cases h
  exact (show runF env0 10 [] [(.bool, false)] () = some (true, ()) by kernel_rfl)

/-! ### quillwort/quillwortref11.Above -/
noncomputable def b18 : Code := (Try.f18.body).getD .skip
noncomputable def c18_1 : Code := cA (cA (cA (cB (b18))))
def k18_1 : Keep := ⟨[0, 1, 2, 100001], [], [], [], [6], []⟩
def p18_1 : SP := ⟨us [.v (.list (.pair (.int .i64) (.pair (.int .i64) (.pair (.int .i64) (.pair (.int .i64) .unit))))), .v (.int .i64), .v (.int .i64)] 14, []⟩
def pa18_1 : SP := ⟨us [] 17, []⟩
def pb18_1 : SP := ⟨us [.u, .u, .u, .u, .u, .u, .v .bool] 10, []⟩
def st18_1 {γ : Type} (rec : (List (Int × Int × Int × Int × Unit)) → Int → Int → Option γ) (kE : Option γ) (kR : Bool → Option γ) (v0 : List (Int × Int × Int × Int × Unit)) (v1 : Int) (v2 : Int) : Option γ :=
  bif (leI 0 v2) then
    bif (eqI v1 v2) then
      kR true
    else
    bif (inI v0 v2) then
      rec v0 v1 (getI v0 (0, (0, (0, (0, ())))) v2).2.2.2.1
    else
    none
  else
  kE 
def lp18_1 : Nat → (List (Int × Int × Int × Int × Unit)) → Int → Int → Option (pa18_1.den ⊕ pb18_1.den)
  | 0, _, _, _ => none
  | n + 1, v0, v1, v2 => st18_1 (lp18_1 n) (some (.inl ((), ()))) (fun r0 => some (.inr ((r0, ()), ()))) v0 v1 v2
noncomputable def ls18_1 : LoopSum := loopBy k18_1 p18_1 pa18_1 pb18_1 (.exit 0) (fun v => lp18_1 fuelN v.1.1 v.1.2.1 v.1.2.2.1) 6
def fn18 (x0 : List (Int × Int × Int × Int × Unit)) (x1 : Int) (x2 : Int) : Option (Bool × Unit) :=
  obind (lp18_1 fuelN x0 x1 x2) fun y0 =>
    osum y0 (fun a1 =>
      some (false, ())) (fun b1 =>
      some (b1.1.1, ()))
def sum18 : Sum := (⟨[.list (.pair (.int .i64) (.pair (.int .i64) (.pair (.int .i64) (.pair (.int .i64) .unit)))), .int .i64, .int .i64], [(.bool, false)], fun x => fn18 x.1 x.2.1 x.2.2.1⟩ : Sum)
noncomputable def env18 : Env := envOf Try.prog tt 18 [] [(1, k18_1)] [(1, ls18_1)]
theorem step18_1 {R : Type} (d : Nat) (n : Nat) (K : Ex → St → Option R) (v0 : List (Int × Int × Int × Int × Unit)) (v1 : Int) (v2 : Int) :
    iter (some k18_1) (runD env18 (d + 6) 18 c18_1) (n + 1) (mkSt p18_1 ((v0, v1, v2, ()), ())) K =
      st18_1 (fun v0 v1 v2 => iter (some k18_1) (runD env18 (d + 6) 18 c18_1) n (mkSt p18_1 ((v0, v1, v2, ()), ())) K) (K (.exit 0) (mkSt pa18_1 ((), ()))) (fun r0 => K .ret (mkSt pb18_1 ((r0, ()), ()))) v0 v1 v2 := by kernel_rfl
theorem it18_1 {R : Type} (d : Nat) (K : Ex → St → Option R) : ∀ (n : Nat) (v0 : List (Int × Int × Int × Int × Unit)) (v1 : Int) (v2 : Int),
    iter (some k18_1) (runD env18 (d + 6) 18 c18_1) n (mkSt p18_1 ((v0, v1, v2, ()), ())) K = obind (lp18_1 n v0 v1 v2) fun o => osum o (fun a => K (.exit 0) (mkSt pa18_1 a)) fun b => K .ret (mkSt pb18_1 b)
  | 0, _, _, _ => rfl
  | n + 1, v0, v1, v2 => by
    rw [step18_1]
    simp only [it18_1 d K n, lp18_1, st18_1, obind_cond, obind_none, obind_some, obind_obind, obind_osum]
    try simp only [osum]
theorem ok18_1 : LoopOk env18 18 c18_1 ls18_1 := loopBy_ok (by kernel_rfl) fun R d K v o h => ⟨fuelN, (it18_1 d K fuelN (v.1.1) (v.1.2.1) (v.1.2.2.1)).trans (congrArg (fun o => obind o _) h)⟩
theorem run18 (x0 : List (Int × Int × Int × Int × Unit)) (x1 : Int) (x2 : Int) : runF env18 18 [.list (.pair (.int .i64) (.pair (.int .i64) (.pair (.int .i64) (.pair (.int .i64) .unit)))), .int .i64, .int .i64] [(.bool, false)] (x0, x1, x2, ()) = fn18 x0 x1 x2 := by kernel_rfl
theorem lat18 : loopsAt b18 = [c18_1] := by kernel_rfl
theorem lok18 : loopsOk env18 18 b18 := loopsOk_at b18 (fun _ => rfl) (by rw [lat18]; exact (List.forall_mem_cons.2 ⟨(fun L h => by rw [show env18.lp 18 (firstRegion c18_1) = some ls18_1 by kernel_rfl] at h; cases h; exact ok18_1), (fun _ h => absurd h List.not_mem_nil)⟩))
theorem env18_ok : EnvOk env18 := envOf_ok tok mixed noGor (sg := []) (fun _ h => absurd h List.not_mem_nil) (fn := Try.f18) (c := b18) (by kernel_rfl) (by kernel_rfl) lok18 rf_ok chk_ok
theorem sum18_ok : SumOk Try.prog 18 sum18 := sum_of_run env18_ok (by decide) fun x y h => (run18 (x.1) (x.2.1) (x.2.2.1)).trans h

/-! ### quillwort/quillwortref11.Right -/
noncomputable def b12 : Code := (Try.f12.body).getD .skip
noncomputable def c12_13 : Code := cA (cA (cB (cB (cB (cB (cB (cA (cA (cB (cA (cA (cB (cA (cB (cB (b12))))))))))))))))
noncomputable def c12_4 : Code := cA (cA (cB (cA (cB (cB (b12))))))
def k12_13 : Keep := ⟨[0, 5, 6, 7, 100013], [], [0, 5], [], [4], []⟩
def k12_4 : Keep := ⟨[0, 5, 100004], [], [], [], [4], []⟩
def p12_13 : SP := ⟨us [.v (.list (.pair (.int .i64) (.pair (.int .i64) (.pair (.int .i64) (.pair (.int .i64) .unit))))), .u, .u, .u, .u, .v (.int .i64), .v (.int .i64), .v (.int .i64)] 131, []⟩
def pa12_13 : SP := ⟨us [.v (.list (.pair (.int .i64) (.pair (.int .i64) (.pair (.int .i64) (.pair (.int .i64) .unit))))), .u, .u, .u, .u, .v (.int .i64)] 133, []⟩
def pb12_13 : SP := ⟨us [.u, .u, .u, .u, .v .bool] 134, []⟩
def st12_13 {γ : Type} (rec : (List (Int × Int × Int × Int × Unit)) → Int → Int → Int → Option γ) (kE : (List (Int × Int × Int × Int × Unit)) → Int → Option γ) (kR : Bool → Option γ) (v0 : List (Int × Int × Int × Int × Unit)) (v1 : Int) (v2 : Int) (v3 : Int) : Option γ :=
  bif (ltI v3 v1) then
    bif (inI v0 v3) then
      bif (eqI (getI v0 (0, (0, (0, (0, ())))) v3).2.2.2.1 v2) then
        bif (inI v0 v3) then
          bif (inI v0 v1) then
            bif (ltI (getI v0 (0, (0, (0, (0, ())))) v1).2.1 (getI v0 (0, (0, (0, (0, ())))) v3).2.2.1) then
              kR false
            else
            rec v0 v1 v2 (addK .i64 v3 1)
          else
          none
        else
        none
      else
      rec v0 v1 v2 (addK .i64 v3 1)
    else
    none
  else
  kE v0 v1
def lp12_13 : Nat → (List (Int × Int × Int × Int × Unit)) → Int → Int → Int → Option (pa12_13.den ⊕ pb12_13.den)
  | 0, _, _, _, _ => none
  | n + 1, v0, v1, v2, v3 => st12_13 (lp12_13 n) (fun e0 e1 => some (.inl ((e0, e1, ()), ()))) (fun r0 => some (.inr ((r0, ()), ()))) v0 v1 v2 v3
noncomputable def ls12_13 : LoopSum := loopBy k12_13 p12_13 pa12_13 pb12_13 (.exit 2) (fun v => lp12_13 fuelN v.1.1 v.1.2.1 v.1.2.2.1 v.1.2.2.2.1) 6
def p12_4 : SP := ⟨us [.v (.list (.pair (.int .i64) (.pair (.int .i64) (.pair (.int .i64) (.pair (.int .i64) .unit))))), .u, .u, .u, .u, .v (.int .i64)] 133, []⟩
def pa12_4 : SP := ⟨us [] 139, []⟩
def pb12_4 : SP := ⟨us [.u, .u, .u, .u, .v .bool] 134, []⟩
def st12_4 {γ : Type} (rec : (List (Int × Int × Int × Int × Unit)) → Int → Option γ) (kE : Option γ) (kR : Bool → Option γ) (v0 : List (Int × Int × Int × Int × Unit)) (v1 : Int) : Option γ :=
  bif (ltI v1 (lenI v0)) then
    bif (inI v0 v1) then
      bif (ltI (getI v0 (0, (0, (0, (0, ())))) v1).1 1) then
        kR false
      else
      bif (inI v0 v1) then
        bif (ltI 18 (getI v0 (0, (0, (0, (0, ())))) v1).1) then
          kR false
        else
        bif (inI v0 v1) then
          bif (inI v0 v1) then
            bif (ltI (getI v0 (0, (0, (0, (0, ())))) v1).2.2.1 (getI v0 (0, (0, (0, (0, ())))) v1).2.1) then
              kR false
            else
            bif (eqI v1 0) then
              rec v0 (addK .i64 v1 1)
            else
            bif (inI v0 v1) then
              bif (ltI (getI v0 (0, (0, (0, (0, ())))) v1).2.2.2.1 0) then
                kR false
              else
              bif (leI v1 (getI v0 (0, (0, (0, (0, ())))) v1).2.2.2.1) then
                kR false
              else
              obind (fn18 v0 (getI v0 (0, (0, (0, (0, ())))) v1).2.2.2.1 (subK .i64 v1 1)) fun y0 =>
                bif (!y0.1) then
                  kR false
                else
                bif (inI v0 v1) then
                  bif (inI v0 (getI v0 (0, (0, (0, (0, ())))) v1).2.2.2.1) then
                    bif (ltI (getI v0 (0, (0, (0, (0, ())))) v1).2.1 (getI v0 (0, (0, (0, (0, ())))) (getI v0 (0, (0, (0, (0, ())))) v1).2.2.2.1).2.1) then
                      kR false
                    else
                    bif (inI v0 v1) then
                      bif (inI v0 (getI v0 (0, (0, (0, (0, ())))) v1).2.2.2.1) then
                        bif (ltI (getI v0 (0, (0, (0, (0, ())))) (getI v0 (0, (0, (0, (0, ())))) v1).2.2.2.1).2.2.1 (getI v0 (0, (0, (0, (0, ())))) v1).2.2.1) then
                          kR false
                        else
                        obind (lp12_13 fuelN v0 v1 (getI v0 (0, (0, (0, (0, ())))) v1).2.2.2.1 1) fun y1 =>
                          osum y1 (fun a2 =>
                            rec a2.1.1 (addK .i64 a2.1.2.1 1)) (fun b2 =>
                            kR b2.1.1)
                      else
                      none
                    else
                    none
                  else
                  none
                else
                none
            else
            none
          else
          none
        else
        none
      else
      none
    else
    none
  else
  kE 
def lp12_4 : Nat → (List (Int × Int × Int × Int × Unit)) → Int → Option (pa12_4.den ⊕ pb12_4.den)
  | 0, _, _ => none
  | n + 1, v0, v1 => st12_4 (lp12_4 n) (some (.inl ((), ()))) (fun r0 => some (.inr ((r0, ()), ()))) v0 v1
noncomputable def ls12_4 : LoopSum := loopBy k12_4 p12_4 pa12_4 pb12_4 (.exit 0) (fun v => lp12_4 fuelN v.1.1 v.1.2.1) 12
def fn12 (x0 : List (Int × Int × Int × Int × Unit)) (x1 : Int) : Option (Bool × Unit) :=
  bif (eqI (lenI x0) 0) then
    some (false, ())
  else
  bif (inI x0 0) then
    bif (!(eqI (getI x0 (0, (0, (0, (0, ())))) 0).2.2.2.1 (-1))) then
      some (false, ())
    else
    bif (inI x0 0) then
      bif (!(eqI (getI x0 (0, (0, (0, (0, ())))) 0).2.1 0)) then
        some (false, ())
      else
      bif (inI x0 0) then
        bif (!(eqI (getI x0 (0, (0, (0, (0, ())))) 0).2.2.1 x1)) then
          some (false, ())
        else
        obind (lp12_4 fuelN x0 0) fun y0 =>
          osum y0 (fun a1 =>
            some (true, ())) (fun b1 =>
            some (b1.1.1, ()))
      else
      none
    else
    none
  else
  none
def sum12 : Sum := (⟨[.list (.pair (.int .i64) (.pair (.int .i64) (.pair (.int .i64) (.pair (.int .i64) .unit)))), .int .i64], [(.bool, false)], fun x => fn12 x.1 x.2.1⟩ : Sum)
noncomputable def env12 : Env := envOf Try.prog tt 12 [(18, sum18)] [(13, k12_13), (4, k12_4)] [(13, ls12_13), (4, ls12_4)]
theorem step12_13 {R : Type} (d : Nat) (n : Nat) (K : Ex → St → Option R) (v0 : List (Int × Int × Int × Int × Unit)) (v1 : Int) (v2 : Int) (v3 : Int) :
    iter (some k12_13) (runD env12 (d + 6) 12 c12_13) (n + 1) (mkSt p12_13 ((v0, v1, v2, v3, ()), ())) K =
      st12_13 (fun v0 v1 v2 v3 => iter (some k12_13) (runD env12 (d + 6) 12 c12_13) n (mkSt p12_13 ((v0, v1, v2, v3, ()), ())) K) (fun e0 e1 => K (.exit 2) (mkSt pa12_13 ((e0, e1, ()), ()))) (fun r0 => K .ret (mkSt pb12_13 ((r0, ()), ()))) v0 v1 v2 v3 := by kernel_rfl
theorem it12_13 {R : Type} (d : Nat) (K : Ex → St → Option R) : ∀ (n : Nat) (v0 : List (Int × Int × Int × Int × Unit)) (v1 : Int) (v2 : Int) (v3 : Int),
    iter (some k12_13) (runD env12 (d + 6) 12 c12_13) n (mkSt p12_13 ((v0, v1, v2, v3, ()), ())) K = obind (lp12_13 n v0 v1 v2 v3) fun o => osum o (fun a => K (.exit 2) (mkSt pa12_13 a)) fun b => K .ret (mkSt pb12_13 b)
  | 0, _, _, _, _ => rfl
  | n + 1, v0, v1, v2, v3 => by
    rw [step12_13]
    simp only [it12_13 d K n, lp12_13, st12_13, obind_cond, obind_none, obind_some, obind_obind, obind_osum]
    try simp only [osum]
theorem ok12_13 : LoopOk env12 12 c12_13 ls12_13 := loopBy_ok (by kernel_rfl) fun R d K v o h => ⟨fuelN, (it12_13 d K fuelN (v.1.1) (v.1.2.1) (v.1.2.2.1) (v.1.2.2.2.1)).trans (congrArg (fun o => obind o _) h)⟩
theorem step12_4 {R : Type} (d : Nat) (n : Nat) (K : Ex → St → Option R) (v0 : List (Int × Int × Int × Int × Unit)) (v1 : Int) :
    iter (some k12_4) (runD env12 (d + 12) 12 c12_4) (n + 1) (mkSt p12_4 ((v0, v1, ()), ())) K =
      st12_4 (fun v0 v1 => iter (some k12_4) (runD env12 (d + 12) 12 c12_4) n (mkSt p12_4 ((v0, v1, ()), ())) K) (K (.exit 0) (mkSt pa12_4 ((), ()))) (fun r0 => K .ret (mkSt pb12_4 ((r0, ()), ()))) v0 v1 := by kernel_rfl
theorem it12_4 {R : Type} (d : Nat) (K : Ex → St → Option R) : ∀ (n : Nat) (v0 : List (Int × Int × Int × Int × Unit)) (v1 : Int),
    iter (some k12_4) (runD env12 (d + 12) 12 c12_4) n (mkSt p12_4 ((v0, v1, ()), ())) K = obind (lp12_4 n v0 v1) fun o => osum o (fun a => K (.exit 0) (mkSt pa12_4 a)) fun b => K .ret (mkSt pb12_4 b)
  | 0, _, _ => rfl
  | n + 1, v0, v1 => by
    rw [step12_4]
    simp only [it12_4 d K n, lp12_4, st12_4, obind_cond, obind_none, obind_some, obind_obind, obind_osum]
    try simp only [osum]
theorem ok12_4 : LoopOk env12 12 c12_4 ls12_4 := loopBy_ok (by kernel_rfl) fun R d K v o h => ⟨fuelN, (it12_4 d K fuelN (v.1.1) (v.1.2.1)).trans (congrArg (fun o => obind o _) h)⟩
theorem run12 (x0 : List (Int × Int × Int × Int × Unit)) (x1 : Int) : runF env12 12 [.list (.pair (.int .i64) (.pair (.int .i64) (.pair (.int .i64) (.pair (.int .i64) .unit)))), .int .i64] [(.bool, false)] (x0, x1, ()) = fn12 x0 x1 := by kernel_rfl
theorem lat12 : loopsAt b12 = [c12_13, c12_4] := by kernel_rfl
theorem lok12 : loopsOk env12 12 b12 := loopsOk_at b12 (fun _ => rfl) (by rw [lat12]; exact (List.forall_mem_cons.2 ⟨(fun L h => by rw [show env12.lp 12 (firstRegion c12_13) = some ls12_13 by kernel_rfl] at h; cases h; exact ok12_13), (List.forall_mem_cons.2 ⟨(fun L h => by rw [show env12.lp 12 (firstRegion c12_4) = some ls12_4 by kernel_rfl] at h; cases h; exact ok12_4), (fun _ h => absurd h List.not_mem_nil)⟩)⟩))
theorem env12_ok : EnvOk env12 := envOf_ok tok mixed noGor (sg := [(18, sum18)]) (List.forall_mem_cons.2 ⟨(sum18_ok), (fun _ h => absurd h List.not_mem_nil)⟩) (fn := Try.f12) (c := b12) (by kernel_rfl) (by kernel_rfl) lok12 rf_ok chk_ok
theorem sum12_ok : SumOk Try.prog 12 sum12 := sum_of_run env12_ok (by decide) fun x y h => (run12 (x.1) (x.2.1)).trans h

/-! ### quillwort/quillwortlaw11.right -/
def fn16 (x0 : List (Int × Int × Int × Int × Unit)) : Option (Bool × Unit) :=
  bif (ltI 0 (lenI x0)) then
    bif (leI (lenI x0) 40) then
      bif (inI x0 0) then
        obind (fn12 x0 (getI x0 (0, (0, (0, (0, ())))) 0).2.2.1) fun y0 =>
          some (y0.1, ())
      else
      none
    else
    some (false, ())
  else
  some (false, ())
def sum16 : Sum := (⟨[.list (.pair (.int .i64) (.pair (.int .i64) (.pair (.int .i64) (.pair (.int .i64) .unit))))], [(.bool, false)], fun x => fn16 x.1⟩ : Sum)
noncomputable def env16 : Env := envOf Try.prog tt 16 [(12, sum12)] [] []
theorem run16 (x0 : List (Int × Int × Int × Int × Unit)) : runF env16 16 [.list (.pair (.int .i64) (.pair (.int .i64) (.pair (.int .i64) (.pair (.int .i64) .unit))))] [(.bool, false)] (x0, ()) = fn16 x0 := by kernel_rfl
theorem env16_ok : EnvOk env16 := envOf_ok tok mixed noGor (sg := [(12, sum12)]) (List.forall_mem_cons.2 ⟨(sum12_ok), (fun _ h => absurd h List.not_mem_nil)⟩) (fn := Try.f16) (c := (Try.f16.body).getD .skip) (by kernel_rfl) (by kernel_rfl) (loopsOk_none (fun _ => rfl) (fun _ => rfl) _) rf_ok chk_ok
theorem sum16_ok : SumOk Try.prog 16 sum16 := sum_of_run env16_ok (by decide) fun x y h => (run16 (x.1)).trans h

/-! ### quillwort/tree.After -/
noncomputable def b20 : Code := (Try.f20.body).getD .skip
noncomputable def b20_36 : Code := (Try.f36.body).getD .skip
noncomputable def c20_36_4 : Code := cA (cA (cA (cB (cA (cA (cB (cB (cA (cA (cB (cA (cB (b20_36)))))))))))))
noncomputable def c20_36_2 : Code := cA (cA (cB (cA (cB (b20_36)))))
noncomputable def c20_36_11 : Code := cA (cA (cB (cB (cB (b20_36)))))
def k20_36_4 : Keep := ⟨[0, 3, 4, 5, 8, 9, 10, 37000004], [(3, (.int .i64))], [0, 3, 4, 8, 9, 10], [], [], []⟩
def k20_36_2 : Keep := ⟨[0, 3, 8, 9, 10, 37000002], [(3, (.int .i64))], [0, 3], [], [], []⟩
def k20_36_11 : Keep := ⟨[0, 3, 7, 37000011], [], [], [], [], []⟩
def kr20_3 : Keep := ⟨[2], [], [], [], [], []⟩
def p20_36_4 : SQ := ⟨us [.yld 1700006, .u, .u, .slc 3800003, .v (.int .i64), .ptr 3000005 0, .u, .u, .v (.list (.pair (.int .i64) (.pair (.int .i64) (.pair (.int .i64) (.pair (.int .i64) .unit))))), .v (.int .i64), .v (.int .i64)] 52, [us [.u, .u, .ptr 1000002 0] 9, [.yld 1700006], []], [.box 3000005 31 [.v (.int .i64), .v (.int .i64), .v (.int .i64), .v (.int .i64)], .arr 3800003 (.int .i64), .lp 1700006 20 (us [.u, .u, .ptr 1000002 0] 9) [6] 3 0 none, .box 2000001 22 [.v (.list (.pair (.int .i64) (.pair (.int .i64) (.pair (.int .i64) (.pair (.int .i64) .unit)))))], .box 1000002 39 [.slc 1500002], .arr 1500002 (.int .i64)]⟩
def pa20_36_4 : SQ := ⟨us [.yld 1700006, .u, .u, .slc 3800003, .v (.int .i64), .u, .u, .u, .v (.list (.pair (.int .i64) (.pair (.int .i64) (.pair (.int .i64) (.pair (.int .i64) .unit))))), .v (.int .i64), .v (.int .i64)] 52, [us [.u, .u, .ptr 1000002 0] 9, [.yld 1700006], []], [.arr 3800003 (.int .i64), .lp 1700006 20 (us [.u, .u, .ptr 1000002 0] 9) [6] 3 0 none, .box 2000001 22 [.v (.list (.pair (.int .i64) (.pair (.int .i64) (.pair (.int .i64) (.pair (.int .i64) .unit)))))], .box 1000002 39 [.slc 1500002], .arr 1500002 (.int .i64)]⟩
def pb20_36_4 : SQ := ⟨us [] 63, [us [.u, .u, .ptr 1000002 0] 9, [.yld 1700006], []], []⟩
def st20_36_4 {γ : Type} (rec : Int → (List (Int × Int × Int × Int × Unit)) → Int → Int → Int → Int → Int → Int → (List (Int)) → (List (Int × Int × Int × Int × Unit)) → (List (Int)) → Option γ) (kE : Int → (List (Int × Int × Int × Int × Unit)) → Int → Int → (List (Int)) → (List (Int × Int × Int × Int × Unit)) → (List (Int)) → Option γ) (kR : Option γ) (v0 : Int) (v1 : List (Int × Int × Int × Int × Unit)) (v2 : Int) (v3 : Int) (v4 : Int) (v5 : Int) (v6 : Int) (v7 : Int) (v8 : List (Int)) (v9 : List (Int × Int × Int × Int × Unit)) (v10 : List (Int)) : Option γ :=
  bif (ltI 0 (lenI v8)) then
    bif (inI v8 (subK .i64 (lenI v8) 1)) then
      bif (ltL (natI (subK .i64 (lenI v8) 1)) v8) then
        bif (!(eqI (nthN v8 0 (natI (subK .i64 (lenI v8) 1))) v7)) then
          bif (inI v8 (subK .i64 (lenI v8) 1)) then
            bif (ltL (natI (subK .i64 (lenI v8) 1)) v8) then
              bif (partI (lenI v8) 0 (subK .i64 (lenI v8) 1)) then
                bif (fitI (catL v10 [(nthN v8 0 (natI (subK .i64 (lenI v8) 1)))]) 8) then
                  rec v0 v1 v2 v3 v4 v5 v6 v7 (takeN v8 (natI (subK .i64 (lenI v8) 1))) v9 (catL v10 [(nthN v8 0 (natI (subK .i64 (lenI v8) 1)))])
                else
                none
              else
              none
            else
            none
          else
          none
        else
        kE v0 v1 v2 v3 v8 v9 v10
      else
      none
    else
    none
  else
  kE v0 v1 v2 v3 v8 v9 v10
def lp20_36_4 : Nat → Int → (List (Int × Int × Int × Int × Unit)) → Int → Int → Int → Int → Int → Int → (List (Int)) → (List (Int × Int × Int × Int × Unit)) → (List (Int)) → Option (pa20_36_4.den ⊕ pb20_36_4.den)
  | 0, _, _, _, _, _, _, _, _, _, _, _ => none
  | n + 1, v0, v1, v2, v3, v4, v5, v6, v7, v8, v9, v10 => st20_36_4 (lp20_36_4 n) (fun e0 e1 e2 e3 e4 e5 e6 => some (.inl ((e0, e1, e2, e3, ()), ((), (), (), ()), (e4, (), (e5, ()), (), e6, ())))) (some (.inr ((), ((), (), (), ()), ()))) v0 v1 v2 v3 v4 v5 v6 v7 v8 v9 v10
noncomputable def ls20_36_4 : LoopSum := loopBy2 k20_36_4 p20_36_4 pa20_36_4 pb20_36_4 (.exit 2) (fun v => lp20_36_4 fuelN v.1.1 v.1.2.1 v.1.2.2.1 v.1.2.2.2.1 v.2.2.1.1 v.2.2.1.2.1 v.2.2.1.2.2.1 v.2.2.1.2.2.2.1 v.2.2.2.1 v.2.2.2.2.2.1.1 v.2.2.2.2.2.2.2.1) 6
def p20_36_2 : SQ := ⟨us [.yld 1700006, .u, .u, .slc 3800003, .u, .u, .u, .u, .v (.list (.pair (.int .i64) (.pair (.int .i64) (.pair (.int .i64) (.pair (.int .i64) .unit))))), .v (.int .i64), .v (.int .i64)] 52, [us [.u, .u, .ptr 1000002 0] 9, [.yld 1700006], []], [.arr 3800003 (.int .i64), .lp 1700006 20 (us [.u, .u, .ptr 1000002 0] 9) [6] 3 0 none, .box 2000001 22 [.v (.list (.pair (.int .i64) (.pair (.int .i64) (.pair (.int .i64) (.pair (.int .i64) .unit)))))], .box 1000002 39 [.slc 1500002], .arr 1500002 (.int .i64)]⟩
def pa20_36_2 : SQ := ⟨us [.yld 1700006, .u, .u, .slc 3800003] 59, [us [.u, .u, .ptr 1000002 0] 9, [.yld 1700006], []], [.arr 3800003 (.int .i64), .lp 1700006 20 (us [.u, .u, .ptr 1000002 0] 9) [6] 3 0 none, .box 2000001 22 [.v (.list (.pair (.int .i64) (.pair (.int .i64) (.pair (.int .i64) (.pair (.int .i64) .unit)))))], .box 1000002 39 [.slc 1500002], .arr 1500002 (.int .i64)]⟩
def pb20_36_2 : SQ := ⟨us [] 63, [us [.u, .u, .ptr 1000002 0] 9, [.yld 1700006], []], []⟩
def st20_36_2 {γ : Type} (rec : (List (Int × Int × Int × Int × Unit)) → Int → Int → (List (Int)) → (List (Int × Int × Int × Int × Unit)) → (List (Int)) → Option γ) (kE : (List (Int)) → (List (Int × Int × Int × Int × Unit)) → (List (Int)) → Option γ) (kR : Option γ) (v0 : List (Int × Int × Int × Int × Unit)) (v1 : Int) (v2 : Int) (v3 : List (Int)) (v4 : List (Int × Int × Int × Int × Unit)) (v5 : List (Int)) : Option γ :=
  bif (ltI v2 v1) then
    bif (inI v0 v2) then
      obind (lp20_36_4 fuelN v2 v0 v1 v2 (getI v0 (0, (0, (0, (0, ())))) v2).1 (getI v0 (0, (0, (0, (0, ())))) v2).2.1 (getI v0 (0, (0, (0, (0, ())))) v2).2.2.1 (getI v0 (0, (0, (0, (0, ())))) v2).2.2.2.1 v3 v4 v5) fun y0 =>
        osum y0 (fun a1 =>
          bif (fitI (catL a1.2.2.1 [a1.1.1]) 8) then
            rec a1.1.2.1 a1.1.2.2.1 (addK .i64 a1.1.2.2.2.1 1) (catL a1.2.2.1 [a1.1.1]) a1.2.2.2.2.1.1 a1.2.2.2.2.2.2.1
          else
          none) (fun b1 =>
          kR )
    else
    none
  else
  kE v3 v4 v5
def lp20_36_2 : Nat → (List (Int × Int × Int × Int × Unit)) → Int → Int → (List (Int)) → (List (Int × Int × Int × Int × Unit)) → (List (Int)) → Option (pa20_36_2.den ⊕ pb20_36_2.den)
  | 0, _, _, _, _, _, _ => none
  | n + 1, v0, v1, v2, v3, v4, v5 => st20_36_2 (lp20_36_2 n) (fun e0 e1 e2 => some (.inl ((), ((), (), (), ()), (e0, (), (e1, ()), (), e2, ())))) (some (.inr ((), ((), (), (), ()), ()))) v0 v1 v2 v3 v4 v5
noncomputable def ls20_36_2 : LoopSum := loopBy2 k20_36_2 p20_36_2 pa20_36_2 pb20_36_2 (.exit 0) (fun v => lp20_36_2 fuelN v.1.1 v.1.2.1 v.1.2.2.1 v.2.2.1 v.2.2.2.2.1.1 v.2.2.2.2.2.2.1) 12
def p20_36_11 : SQ := ⟨us [.yld 1700006, .u, .u, .slc 3800003, .u, .u, .u, .v (.int .i64)] 55, [us [.u, .u, .ptr 1000002 0] 9, [.yld 1700006], []], [.arr 3800003 (.int .i64), .lp 1700006 20 (us [.u, .u, .ptr 1000002 0] 9) [6] 3 0 none, .box 2000001 22 [.v (.list (.pair (.int .i64) (.pair (.int .i64) (.pair (.int .i64) (.pair (.int .i64) .unit)))))], .box 1000002 39 [.slc 1500002], .arr 1500002 (.int .i64)]⟩
def pa20_36_11 : SQ := ⟨us [] 63, [us [.u, .u, .ptr 1000002 0] 9, [.yld 1700006], []], [.lp 1700006 20 (us [.u, .u, .ptr 1000002 0] 9) [6] 3 0 none, .box 2000001 22 [.v (.list (.pair (.int .i64) (.pair (.int .i64) (.pair (.int .i64) (.pair (.int .i64) .unit)))))], .box 1000002 39 [.slc 1500002], .arr 1500002 (.int .i64)]⟩
def pb20_36_11 : SQ := ⟨us [] 63, [us [.u, .u, .ptr 1000002 0] 9, [.yld 1700006], []], []⟩
def st20_36_11 {γ : Type} (rec : Int → (List (Int)) → (List (Int × Int × Int × Int × Unit)) → (List (Int)) → Option γ) (kE : (List (Int × Int × Int × Int × Unit)) → (List (Int)) → Option γ) (kR : Option γ) (v0 : Int) (v1 : List (Int)) (v2 : List (Int × Int × Int × Int × Unit)) (v3 : List (Int)) : Option γ :=
  bif (leI 0 v0) then
    bif (inI v1 v0) then
      bif (ltL (natI v0) v1) then
        bif (fitI (catL v3 [(nthN v1 0 (natI v0))]) 8) then
          rec (subK .i64 v0 1) v1 v2 (catL v3 [(nthN v1 0 (natI v0))])
        else
        none
      else
      none
    else
    none
  else
  kE v2 v3
def lp20_36_11 : Nat → Int → (List (Int)) → (List (Int × Int × Int × Int × Unit)) → (List (Int)) → Option (pa20_36_11.den ⊕ pb20_36_11.den)
  | 0, _, _, _, _ => none
  | n + 1, v0, v1, v2, v3 => st20_36_11 (lp20_36_11 n) (fun e0 e1 => some (.inl ((), ((), (), (), ()), ((), (e0, ()), (), e1, ())))) (some (.inr ((), ((), (), (), ()), ()))) v0 v1 v2 v3
noncomputable def ls20_36_11 : LoopSum := loopBy2 k20_36_11 p20_36_11 pa20_36_11 pb20_36_11 (.exit 4) (fun v => lp20_36_11 fuelN v.1.1 v.2.2.1 v.2.2.2.2.1.1 v.2.2.2.2.2.2.1) 18
def fn20 (x0 : List (Int × Int × Int × Int × Unit)) : Option ((List (Int)) × Unit) :=
  obind (lp20_36_2 fuelN x0 (lenI x0) 0 [] x0 []) fun y0 =>
    osum y0 (fun a1 =>
      obind (lp20_36_11 fuelN (subK .i64 (lenI a1.2.2.1) 1) a1.2.2.1 a1.2.2.2.2.1.1 a1.2.2.2.2.2.2.1) fun y2 =>
        osum y2 (fun a3 =>
          some (a3.2.2.2.2.2.1, ())) (fun b3 =>
          none)) (fun b1 =>
      none)
def sum20 : Sum := (⟨[.list (.pair (.int .i64) (.pair (.int .i64) (.pair (.int .i64) (.pair (.int .i64) .unit))))], [(.list (.int .i64), false)], fun x => fn20 x.1⟩ : Sum)
noncomputable def env20 : Env := envOf2 Try.prog tt [] [(36, 4, k20_36_4), (36, 2, k20_36_2), (36, 11, k20_36_11), (20, 500003, kr20_3)] [(36, 4, ls20_36_4), (36, 2, ls20_36_2), (36, 11, ls20_36_11)] [20]
theorem step20_36_4 {R : Type} (d : Nat) (n : Nat) (K : Ex → St → Option R) (v0 : Int) (v1 : List (Int × Int × Int × Int × Unit)) (v2 : Int) (v3 : Int) (v4 : Int) (v5 : Int) (v6 : Int) (v7 : Int) (v8 : List (Int)) (v9 : List (Int × Int × Int × Int × Unit)) (v10 : List (Int)) :
    iter (some k20_36_4) (runD env20 (d + 6) 36 c20_36_4) (n + 1) (mkSt2 p20_36_4 ((v0, v1, v2, v3, ()), ((), (), (), ()), ((v4, v5, v6, v7, ()), v8, (), (v9, ()), (), v10, ()))) K =
      st20_36_4 (fun v0 v1 v2 v3 v4 v5 v6 v7 v8 v9 v10 => iter (some k20_36_4) (runD env20 (d + 6) 36 c20_36_4) n (mkSt2 p20_36_4 ((v0, v1, v2, v3, ()), ((), (), (), ()), ((v4, v5, v6, v7, ()), v8, (), (v9, ()), (), v10, ()))) K) (fun e0 e1 e2 e3 e4 e5 e6 => K (.exit 2) (mkSt2 pa20_36_4 ((e0, e1, e2, e3, ()), ((), (), (), ()), (e4, (), (e5, ()), (), e6, ())))) (K .ret (mkSt2 pb20_36_4 ((), ((), (), (), ()), ()))) v0 v1 v2 v3 v4 v5 v6 v7 v8 v9 v10 := by kernel_rfl
theorem it20_36_4 {R : Type} (d : Nat) (K : Ex → St → Option R) : ∀ (n : Nat) (v0 : Int) (v1 : List (Int × Int × Int × Int × Unit)) (v2 : Int) (v3 : Int) (v4 : Int) (v5 : Int) (v6 : Int) (v7 : Int) (v8 : List (Int)) (v9 : List (Int × Int × Int × Int × Unit)) (v10 : List (Int)),
    iter (some k20_36_4) (runD env20 (d + 6) 36 c20_36_4) n (mkSt2 p20_36_4 ((v0, v1, v2, v3, ()), ((), (), (), ()), ((v4, v5, v6, v7, ()), v8, (), (v9, ()), (), v10, ()))) K = obind (lp20_36_4 n v0 v1 v2 v3 v4 v5 v6 v7 v8 v9 v10) fun o => osum o (fun a => K (.exit 2) (mkSt2 pa20_36_4 a)) fun b => K .ret (mkSt2 pb20_36_4 b)
  | 0, _, _, _, _, _, _, _, _, _, _, _ => rfl
  | n + 1, v0, v1, v2, v3, v4, v5, v6, v7, v8, v9, v10 => by
    rw [step20_36_4]
    simp only [it20_36_4 d K n, lp20_36_4, st20_36_4, obind_cond, obind_none, obind_some, obind_obind, obind_osum]
    try simp only [osum]
theorem ok20_36_4 : LoopOk env20 36 c20_36_4 ls20_36_4 := loopBy2_ok (by kernel_rfl) fun R d K v o h => ⟨fuelN, (it20_36_4 d K fuelN (v.1.1) (v.1.2.1) (v.1.2.2.1) (v.1.2.2.2.1) (v.2.2.1.1) (v.2.2.1.2.1) (v.2.2.1.2.2.1) (v.2.2.1.2.2.2.1) (v.2.2.2.1) (v.2.2.2.2.2.1.1) (v.2.2.2.2.2.2.2.1)).trans (congrArg (fun o => obind o _) h)⟩
theorem step20_36_2 {R : Type} (d : Nat) (n : Nat) (K : Ex → St → Option R) (v0 : List (Int × Int × Int × Int × Unit)) (v1 : Int) (v2 : Int) (v3 : List (Int)) (v4 : List (Int × Int × Int × Int × Unit)) (v5 : List (Int)) :
    iter (some k20_36_2) (runD env20 (d + 12) 36 c20_36_2) (n + 1) (mkSt2 p20_36_2 ((v0, v1, v2, ()), ((), (), (), ()), (v3, (), (v4, ()), (), v5, ()))) K =
      st20_36_2 (fun v0 v1 v2 v3 v4 v5 => iter (some k20_36_2) (runD env20 (d + 12) 36 c20_36_2) n (mkSt2 p20_36_2 ((v0, v1, v2, ()), ((), (), (), ()), (v3, (), (v4, ()), (), v5, ()))) K) (fun e0 e1 e2 => K (.exit 0) (mkSt2 pa20_36_2 ((), ((), (), (), ()), (e0, (), (e1, ()), (), e2, ())))) (K .ret (mkSt2 pb20_36_2 ((), ((), (), (), ()), ()))) v0 v1 v2 v3 v4 v5 := by kernel_rfl
theorem it20_36_2 {R : Type} (d : Nat) (K : Ex → St → Option R) : ∀ (n : Nat) (v0 : List (Int × Int × Int × Int × Unit)) (v1 : Int) (v2 : Int) (v3 : List (Int)) (v4 : List (Int × Int × Int × Int × Unit)) (v5 : List (Int)),
    iter (some k20_36_2) (runD env20 (d + 12) 36 c20_36_2) n (mkSt2 p20_36_2 ((v0, v1, v2, ()), ((), (), (), ()), (v3, (), (v4, ()), (), v5, ()))) K = obind (lp20_36_2 n v0 v1 v2 v3 v4 v5) fun o => osum o (fun a => K (.exit 0) (mkSt2 pa20_36_2 a)) fun b => K .ret (mkSt2 pb20_36_2 b)
  | 0, _, _, _, _, _, _ => rfl
  | n + 1, v0, v1, v2, v3, v4, v5 => by
    rw [step20_36_2]
    simp only [it20_36_2 d K n, lp20_36_2, st20_36_2, obind_cond, obind_none, obind_some, obind_obind, obind_osum]
    try simp only [osum]
theorem ok20_36_2 : LoopOk env20 36 c20_36_2 ls20_36_2 := loopBy2_ok (by kernel_rfl) fun R d K v o h => ⟨fuelN, (it20_36_2 d K fuelN (v.1.1) (v.1.2.1) (v.1.2.2.1) (v.2.2.1) (v.2.2.2.2.1.1) (v.2.2.2.2.2.2.1)).trans (congrArg (fun o => obind o _) h)⟩
theorem step20_36_11 {R : Type} (d : Nat) (n : Nat) (K : Ex → St → Option R) (v0 : Int) (v1 : List (Int)) (v2 : List (Int × Int × Int × Int × Unit)) (v3 : List (Int)) :
    iter (some k20_36_11) (runD env20 (d + 18) 36 c20_36_11) (n + 1) (mkSt2 p20_36_11 ((v0, ()), ((), (), (), ()), (v1, (), (v2, ()), (), v3, ()))) K =
      st20_36_11 (fun v0 v1 v2 v3 => iter (some k20_36_11) (runD env20 (d + 18) 36 c20_36_11) n (mkSt2 p20_36_11 ((v0, ()), ((), (), (), ()), (v1, (), (v2, ()), (), v3, ()))) K) (fun e0 e1 => K (.exit 4) (mkSt2 pa20_36_11 ((), ((), (), (), ()), ((), (e0, ()), (), e1, ())))) (K .ret (mkSt2 pb20_36_11 ((), ((), (), (), ()), ()))) v0 v1 v2 v3 := by kernel_rfl
theorem it20_36_11 {R : Type} (d : Nat) (K : Ex → St → Option R) : ∀ (n : Nat) (v0 : Int) (v1 : List (Int)) (v2 : List (Int × Int × Int × Int × Unit)) (v3 : List (Int)),
    iter (some k20_36_11) (runD env20 (d + 18) 36 c20_36_11) n (mkSt2 p20_36_11 ((v0, ()), ((), (), (), ()), (v1, (), (v2, ()), (), v3, ()))) K = obind (lp20_36_11 n v0 v1 v2 v3) fun o => osum o (fun a => K (.exit 4) (mkSt2 pa20_36_11 a)) fun b => K .ret (mkSt2 pb20_36_11 b)
  | 0, _, _, _, _ => rfl
  | n + 1, v0, v1, v2, v3 => by
    rw [step20_36_11]
    simp only [it20_36_11 d K n, lp20_36_11, st20_36_11, obind_cond, obind_none, obind_some, obind_obind, obind_osum]
    try simp only [osum]
theorem ok20_36_11 : LoopOk env20 36 c20_36_11 ls20_36_11 := loopBy2_ok (by kernel_rfl) fun R d K v o h => ⟨fuelN, (it20_36_11 d K fuelN (v.1.1) (v.2.2.1) (v.2.2.2.2.1.1) (v.2.2.2.2.2.2.1)).trans (congrArg (fun o => obind o _) h)⟩
theorem run20 (x0 : List (Int × Int × Int × Int × Unit)) : runF env20 20 [.list (.pair (.int .i64) (.pair (.int .i64) (.pair (.int .i64) (.pair (.int .i64) .unit))))] [(.list (.int .i64), false)] (x0, ()) = fn20 x0 := by kernel_rfl
theorem lat20 : loopsAt b20 = [] := by kernel_rfl
theorem rat20 : rangesAt b20 = [(cA (cA (cB (cA (cB (b20))))), cB (cA (cB (cA (cB (b20))))))] := by kernel_rfl
theorem lok20 : loopsOk env20 20 b20 := loopsOk_at2 b20 (by rw [rat20]; exact (List.forall_mem_cons.2 ⟨(fun _ => (show rfTab 20 3 = some (cA (cA (cB (cA (cB (b20))))), cB (cA (cB (cA (cB (b20)))))) by kernel_rfl)), (fun _ h => absurd h List.not_mem_nil)⟩)) (by rw [lat20]; exact (fun _ h => absurd h List.not_mem_nil))
theorem lat20_36 : loopsAt b20_36 = [c20_36_4, c20_36_2, c20_36_11] := by kernel_rfl
theorem lok20_36 : loopsOk env20 36 b20_36 := loopsOk_at b20_36 (fun _ => rfl) (by rw [lat20_36]; exact (List.forall_mem_cons.2 ⟨(fun L h => by rw [show env20.lp 36 (firstRegion c20_36_4) = some ls20_36_4 by kernel_rfl] at h; cases h; exact ok20_36_4), (List.forall_mem_cons.2 ⟨(fun L h => by rw [show env20.lp 36 (firstRegion c20_36_2) = some ls20_36_2 by kernel_rfl] at h; cases h; exact ok20_36_2), (List.forall_mem_cons.2 ⟨(fun L h => by rw [show env20.lp 36 (firstRegion c20_36_11) = some ls20_36_11 by kernel_rfl] at h; cases h; exact ok20_36_11), (fun _ h => absurd h List.not_mem_nil)⟩)⟩)⟩))
theorem env20_ok : EnvOk env20 := envOf2_ok tok mixed noGor (sg := []) (fun _ h => absurd h List.not_mem_nil) [20, 36] (by kernel_rfl) (by kernel_rfl) (List.forall_mem_cons.2 ⟨⟨Try.f20, b20, by kernel_rfl, by kernel_rfl, lok20⟩, (List.forall_mem_cons.2 ⟨⟨Try.f36, b20_36, by kernel_rfl, by kernel_rfl, lok20_36⟩, (fun _ h => absurd h List.not_mem_nil)⟩)⟩) rf_ok chk_ok
theorem sum20_ok : SumOk Try.prog 20 sum20 := sum_of_run env20_ok (by decide) fun x y h => (run20 (x.1)).trans h

/-! ### quillwort/quillwortlaw11.TreeAfter -/
noncomputable def b7 : Code := (Try.f7.body).getD .skip
noncomputable def c7_14 : Code := cA (cA (cB (cB (cA (cA (cB (cA (cA (cB (cA (cB (cB (cB (cB (cB (b7))))))))))))))))
noncomputable def c7_9 : Code := cA (cA (cB (cA (cB (cB (cB (cB (cB (b7)))))))))
def k7_14 : Keep := ⟨[0, 3, 4, 5, 100014], [], [0, 3, 4], [], [2], []⟩
def k7_9 : Keep := ⟨[0, 3, 4, 100009], [], [], [], [2], []⟩
def p7_14 : SP := ⟨us [.v (.list (.pair (.int .i64) (.pair (.int .i64) (.pair (.int .i64) (.pair (.int .i64) .unit))))), .u, .u, .v (.list (.int .i64)), .v (.int .i64), .v (.int .i64)] 88, []⟩
def pa7_14 : SP := ⟨us [.v (.list (.pair (.int .i64) (.pair (.int .i64) (.pair (.int .i64) (.pair (.int .i64) .unit))))), .u, .u, .v (.list (.int .i64)), .v (.int .i64)] 89, []⟩
def pb7_14 : SP := ⟨us [.u, .u, .v .bool] 91, []⟩
def st7_14 {γ : Type} (rec : (List (Int × Int × Int × Int × Unit)) → (List (Int)) → Int → Int → Option γ) (kE : (List (Int × Int × Int × Int × Unit)) → (List (Int)) → Int → Option γ) (kR : Bool → Option γ) (v0 : List (Int × Int × Int × Int × Unit)) (v1 : List (Int)) (v2 : Int) (v3 : Int) : Option γ :=
  bif (ltI v3 v2) then
    bif (inI v1 v3) then
      bif (inI v1 v2) then
        bif (eqI (getI v1 0 v3) (getI v1 0 v2)) then
          kR false
        else
        bif (inI v1 v3) then
          bif (inI v1 v2) then
            obind (fn18 v0 (getI v1 0 v3) (getI v1 0 v2)) fun y0 =>
              bif y0.1 then
                kR false
              else
              bif (inI v1 v3) then
                bif (inI v0 (getI v1 0 v3)) then
                  bif (inI v1 v2) then
                    bif (inI v0 (getI v1 0 v2)) then
                      bif (eqI (getI v0 (0, (0, (0, (0, ())))) (getI v1 0 v3)).2.2.2.1 (getI v0 (0, (0, (0, (0, ())))) (getI v1 0 v2)).2.2.2.1) then
                        bif (inI v1 v3) then
                          bif (inI v1 v2) then
                            bif (ltI (getI v1 0 v2) (getI v1 0 v3)) then
                              kR false
                            else
                            rec v0 v1 v2 (addK .i64 v3 1)
                          else
                          none
                        else
                        none
                      else
                      rec v0 v1 v2 (addK .i64 v3 1)
                    else
                    none
                  else
                  none
                else
                none
              else
              none
          else
          none
        else
        none
      else
      none
    else
    none
  else
  kE v0 v1 v2
def lp7_14 : Nat → (List (Int × Int × Int × Int × Unit)) → (List (Int)) → Int → Int → Option (pa7_14.den ⊕ pb7_14.den)
  | 0, _, _, _, _ => none
  | n + 1, v0, v1, v2, v3 => st7_14 (lp7_14 n) (fun e0 e1 e2 => some (.inl ((e0, e1, e2, ()), ()))) (fun r0 => some (.inr ((r0, ()), ()))) v0 v1 v2 v3
noncomputable def ls7_14 : LoopSum := loopBy k7_14 p7_14 pa7_14 pb7_14 (.exit 2) (fun v => lp7_14 fuelN v.1.1 v.1.2.1 v.1.2.2.1 v.1.2.2.2.1) 6
def p7_9 : SP := ⟨us [.v (.list (.pair (.int .i64) (.pair (.int .i64) (.pair (.int .i64) (.pair (.int .i64) .unit))))), .u, .u, .v (.list (.int .i64)), .v (.int .i64)] 89, []⟩
def pa7_9 : SP := ⟨us [] 94, []⟩
def pb7_9 : SP := ⟨us [.u, .u, .v .bool] 91, []⟩
def st7_9 {γ : Type} (rec : (List (Int × Int × Int × Int × Unit)) → (List (Int)) → Int → Option γ) (kE : Option γ) (kR : Bool → Option γ) (v0 : List (Int × Int × Int × Int × Unit)) (v1 : List (Int)) (v2 : Int) : Option γ :=
  bif (ltI v2 (lenI v1)) then
    bif (inI v1 v2) then
      bif (ltI (getI v1 0 v2) 0) then
        kR false
      else
      bif (inI v1 v2) then
        bif (leI (lenI v0) (getI v1 0 v2)) then
          kR false
        else
        obind (lp7_14 fuelN v0 v1 v2 0) fun y0 =>
          osum y0 (fun a1 =>
            rec a1.1.1 a1.1.2.1 (addK .i64 a1.1.2.2.1 1)) (fun b1 =>
            kR b1.1.1)
      else
      none
    else
    none
  else
  kE 
def lp7_9 : Nat → (List (Int × Int × Int × Int × Unit)) → (List (Int)) → Int → Option (pa7_9.den ⊕ pb7_9.den)
  | 0, _, _, _ => none
  | n + 1, v0, v1, v2 => st7_9 (lp7_9 n) (some (.inl ((), ()))) (fun r0 => some (.inr ((r0, ()), ()))) v0 v1 v2
noncomputable def ls7_9 : LoopSum := loopBy k7_9 p7_9 pa7_9 pb7_9 (.exit 0) (fun v => lp7_9 fuelN v.1.1 v.1.2.1 v.1.2.2.1) 12
def fn7 (x0 : List (Int × Int × Int × Int × Unit)) : Option (Bool × Unit) :=
  obind (fn16 x0) fun y0 =>
    bif (!y0.1) then
      some (true, ())
    else
    obind (fn20 x0) fun y1 =>
      bif (!(eqI (lenI y1.1) (lenI x0))) then
        some (false, ())
      else
      obind (lp7_9 fuelN x0 y1.1 0) fun y2 =>
        osum y2 (fun a3 =>
          some (true, ())) (fun b3 =>
          some (b3.1.1, ()))
def sum7 : Sum := (⟨[.list (.pair (.int .i64) (.pair (.int .i64) (.pair (.int .i64) (.pair (.int .i64) .unit))))], [(.bool, false)], fun x => fn7 x.1⟩ : Sum)
noncomputable def env7 : Env := envOf Try.prog tt 7 [(10, sumAwake), (16, sum16), (18, sum18), (20, sum20)] [(14, k7_14), (9, k7_9)] [(14, ls7_14), (9, ls7_9)]
theorem step7_14 {R : Type} (d : Nat) (n : Nat) (K : Ex → St → Option R) (v0 : List (Int × Int × Int × Int × Unit)) (v1 : List (Int)) (v2 : Int) (v3 : Int) :
    iter (some k7_14) (runD env7 (d + 6) 7 c7_14) (n + 1) (mkSt p7_14 ((v0, v1, v2, v3, ()), ())) K =
      st7_14 (fun v0 v1 v2 v3 => iter (some k7_14) (runD env7 (d + 6) 7 c7_14) n (mkSt p7_14 ((v0, v1, v2, v3, ()), ())) K) (fun e0 e1 e2 => K (.exit 2) (mkSt pa7_14 ((e0, e1, e2, ()), ()))) (fun r0 => K .ret (mkSt pb7_14 ((r0, ()), ()))) v0 v1 v2 v3 := by kernel_rfl
theorem it7_14 {R : Type} (d : Nat) (K : Ex → St → Option R) : ∀ (n : Nat) (v0 : List (Int × Int × Int × Int × Unit)) (v1 : List (Int)) (v2 : Int) (v3 : Int),
    iter (some k7_14) (runD env7 (d + 6) 7 c7_14) n (mkSt p7_14 ((v0, v1, v2, v3, ()), ())) K = obind (lp7_14 n v0 v1 v2 v3) fun o => osum o (fun a => K (.exit 2) (mkSt pa7_14 a)) fun b => K .ret (mkSt pb7_14 b)
  | 0, _, _, _, _ => rfl
  | n + 1, v0, v1, v2, v3 => by
    rw [step7_14]
    simp only [it7_14 d K n, lp7_14, st7_14, obind_cond, obind_none, obind_some, obind_obind, obind_osum]
    try simp only [osum]
theorem ok7_14 : LoopOk env7 7 c7_14 ls7_14 := loopBy_ok (by kernel_rfl) fun R d K v o h => ⟨fuelN, (it7_14 d K fuelN (v.1.1) (v.1.2.1) (v.1.2.2.1) (v.1.2.2.2.1)).trans (congrArg (fun o => obind o _) h)⟩
theorem step7_9 {R : Type} (d : Nat) (n : Nat) (K : Ex → St → Option R) (v0 : List (Int × Int × Int × Int × Unit)) (v1 : List (Int)) (v2 : Int) :
    iter (some k7_9) (runD env7 (d + 12) 7 c7_9) (n + 1) (mkSt p7_9 ((v0, v1, v2, ()), ())) K =
      st7_9 (fun v0 v1 v2 => iter (some k7_9) (runD env7 (d + 12) 7 c7_9) n (mkSt p7_9 ((v0, v1, v2, ()), ())) K) (K (.exit 0) (mkSt pa7_9 ((), ()))) (fun r0 => K .ret (mkSt pb7_9 ((r0, ()), ()))) v0 v1 v2 := by kernel_rfl
theorem it7_9 {R : Type} (d : Nat) (K : Ex → St → Option R) : ∀ (n : Nat) (v0 : List (Int × Int × Int × Int × Unit)) (v1 : List (Int)) (v2 : Int),
    iter (some k7_9) (runD env7 (d + 12) 7 c7_9) n (mkSt p7_9 ((v0, v1, v2, ()), ())) K = obind (lp7_9 n v0 v1 v2) fun o => osum o (fun a => K (.exit 0) (mkSt pa7_9 a)) fun b => K .ret (mkSt pb7_9 b)
  | 0, _, _, _ => rfl
  | n + 1, v0, v1, v2 => by
    rw [step7_9]
    simp only [it7_9 d K n, lp7_9, st7_9, obind_cond, obind_none, obind_some, obind_obind, obind_osum]
    try simp only [osum]
theorem ok7_9 : LoopOk env7 7 c7_9 ls7_9 := loopBy_ok (by kernel_rfl) fun R d K v o h => ⟨fuelN, (it7_9 d K fuelN (v.1.1) (v.1.2.1) (v.1.2.2.1)).trans (congrArg (fun o => obind o _) h)⟩
theorem run7 (x0 : List (Int × Int × Int × Int × Unit)) : runF env7 7 [.list (.pair (.int .i64) (.pair (.int .i64) (.pair (.int .i64) (.pair (.int .i64) .unit))))] [(.bool, false)] (x0, ()) = fn7 x0 := by kernel_rfl
theorem lat7 : loopsAt b7 = [c7_14, c7_9] := by kernel_rfl
theorem lok7 : loopsOk env7 7 b7 := loopsOk_at b7 (fun _ => rfl) (by rw [lat7]; exact (List.forall_mem_cons.2 ⟨(fun L h => by rw [show env7.lp 7 (firstRegion c7_14) = some ls7_14 by kernel_rfl] at h; cases h; exact ok7_14), (List.forall_mem_cons.2 ⟨(fun L h => by rw [show env7.lp 7 (firstRegion c7_9) = some ls7_9 by kernel_rfl] at h; cases h; exact ok7_9), (fun _ h => absurd h List.not_mem_nil)⟩)⟩))
theorem env7_ok : EnvOk env7 := envOf_ok tok mixed noGor (sg := [(10, sumAwake), (16, sum16), (18, sum18), (20, sum20)]) (List.forall_mem_cons.2 ⟨(sumAwake_ok), (List.forall_mem_cons.2 ⟨(sum16_ok), (List.forall_mem_cons.2 ⟨(sum18_ok), (List.forall_mem_cons.2 ⟨(sum20_ok), (fun _ h => absurd h List.not_mem_nil)⟩)⟩)⟩)⟩) (fn := Try.f7) (c := b7) (by kernel_rfl) (by kernel_rfl) lok7 rf_ok chk_ok
theorem sum7_ok : SumOk Try.prog 7 sum7 := sum_of_run env7_ok (by decide) fun x y h => (run7 (x.1)).trans h

end Go.Proofs.Ytfeklnaeolangaa
