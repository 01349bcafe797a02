/-
  The plain functions of some functions of the program, and that they are computed.
-/
import Derived.Test.YtkloefipjbeneaaE
namespace Go.Proofs.Ytkloefipjbeneaa
open Go.RowKit
set_option linter.unusedVariables false
set_option linter.unusedSimpArgs false
set_option maxRecDepth 100000

def sumAwake : Sum := ⟨[], [(.bool, false)], fun _ => some (true, ())⟩
theorem sumAwake_ok : SumOk Try.prog 9 sumAwake := sum_of_run env0_ok (by decide) fun x y h => by
  cases h
  exact (show runF env0 9 [] [(.bool, false)] () = some (true, ()) by kernel_rfl)

/-! ### quillwort/oper.short -/
def fn77 (x0 : Int) : Option ((List UInt8) × Unit) :=
  bif (eqI x0 10) then
    some ([62, 124], ())
  else
  bif (eqI x0 11) then
    some ([60], ())
  else
  bif (eqI x0 12) then
    some ([62], ())
  else
  bif (eqI x0 13) then
    some ([38], ())
  else
  bif (eqI x0 14) then
    some ([59], ())
  else
  bif (eqI x0 15) then
    some ([124], ())
  else
  bif (eqI x0 16) then
    some ([40], ())
  else
  bif (eqI x0 17) then
    some ([41], ())
  else
  some ([], ())
def sum77 : Sum := (⟨[.int .i64], [(.str, false)], fun x => fn77 x.1⟩ : Sum)
noncomputable def env77 : Env := envOf Try.prog tt 77 [] [] []
theorem run77 (x0 : Int) : runF env77 77 [.int .i64] [(.str, false)] (x0, ()) = fn77 x0 := by kernel_rfl
theorem env77_ok : EnvOk env77 := envOf_ok tok mixed noGor (sg := []) (fun _ h => absurd h List.not_mem_nil) (fn := Try.f77) (c := (Try.f77.body).getD .skip) (by kernel_rfl) (by kernel_rfl) (loopsOk_none (fun _ => rfl) (fun _ => rfl) _) rf_ok chk_ok
theorem sum77_ok : SumOk Try.prog 77 sum77 := sum_of_run env77_ok (by decide) fun x y h => (run77 (x.1)).trans h

/-! ### quillwort/oper.Text -/
def fn59 (x0 : Int) : Option ((List UInt8) × Unit) :=
  bif (eqI x0 1) then
    some ([38, 38], ())
  else
  bif (eqI x0 2) then
    some ([124, 124], ())
  else
  bif (eqI x0 3) then
    some ([59, 59], ())
  else
  bif (eqI x0 4) then
    some ([60, 60], ())
  else
  bif (eqI x0 5) then
    some ([60, 60, 45], ())
  else
  bif (eqI x0 6) then
    some ([62, 62], ())
  else
  bif (eqI x0 7) then
    some ([60, 38], ())
  else
  bif (eqI x0 8) then
    some ([62, 38], ())
  else
  bif (eqI x0 9) then
    some ([60, 62], ())
  else
  obind (fn77 x0) fun y0 =>
    some (y0.1, ())
def sum59 : Sum := (⟨[.int .i64], [(.str, false)], fun x => fn59 x.1⟩ : Sum)
noncomputable def env59 : Env := envOf Try.prog tt 59 [(77, sum77)] [] []
theorem run59 (x0 : Int) : runF env59 59 [.int .i64] [(.str, false)] (x0, ()) = fn59 x0 := by kernel_rfl
theorem env59_ok : EnvOk env59 := envOf_ok tok mixed noGor (sg := [(77, sum77)]) (List.forall_mem_cons.2 ⟨(sum77_ok), (fun _ h => absurd h List.not_mem_nil)⟩) (fn := Try.f59) (c := (Try.f59.body).getD .skip) (by kernel_rfl) (by kernel_rfl) (loopsOk_none (fun _ => rfl) (fun _ => rfl) _) rf_ok chk_ok
theorem sum59_ok : SumOk Try.prog 59 sum59 := sum_of_run env59_ok (by decide) fun x y h => (run59 (x.1)).trans h

/-! ### quillwort/oper.Of -/
noncomputable def b40 : Code := (Try.f40.body).getD .skip
noncomputable def c40_4 : Code := cA (cA (cB (cA (cB (cB (b40))))))
def k40_4 : Keep := ⟨[0, 3, 100004], [], [], [], [2], []⟩
def p40_4 : SP := ⟨us [.v .str, .u, .u, .v (.int .i64)] 11, []⟩
def pa40_4 : SP := ⟨us [] 15, []⟩
def pb40_4 : SP := ⟨us [.u, .u, .v (.int .i64)] 12, []⟩
def st40_4 {γ : Type} (rec : (List UInt8) → Int → Option γ) (kE : Option γ) (kR : Int → Option γ) (v0 : List UInt8) (v1 : Int) : Option γ :=
  bif (leI v1 17) then
    obind (fn59 v1) fun y0 =>
      bif (eqS y0.1 v0) then
        kR v1
      else
      rec v0 (addK .i64 v1 1)
  else
  kE 
def lp40_4 : Nat → (List UInt8) → Int → Option (pa40_4.den ⊕ pb40_4.den)
  | 0, _, _ => none
  | n + 1, v0, v1 => st40_4 (lp40_4 n) (some (.inl ((), ()))) (fun r0 => some (.inr ((r0, ()), ()))) v0 v1
noncomputable def ls40_4 : LoopSum := loopBy k40_4 p40_4 pa40_4 pb40_4 (.exit 0) (fun v => lp40_4 fuelN v.1.1 v.1.2.1) 6
def fn40 (x0 : List UInt8) : Option (Int × Unit) :=
  bif (eqS x0 []) then
    some (0, ())
  else
  obind (lp40_4 fuelN x0 1) fun y0 =>
    osum y0 (fun a1 =>
      some (0, ())) (fun b1 =>
      some (b1.1.1, ()))
def sum40 : Sum := (⟨[.str], [(.int .i64, false)], fun x => fn40 x.1⟩ : Sum)
noncomputable def env40 : Env := envOf Try.prog tt 40 [(59, sum59)] [(4, k40_4)] [(4, ls40_4)]
theorem step40_4 {R : Type} (d : Nat) (n : Nat) (K : Ex → St → Option R) (v0 : List UInt8) (v1 : Int) :
    iter (some k40_4) (runD env40 (d + 6) 40 c40_4) (n + 1) (mkSt p40_4 ((v0, v1, ()), ())) K =
      st40_4 (fun v0 v1 => iter (some k40_4) (runD env40 (d + 6) 40 c40_4) n (mkSt p40_4 ((v0, v1, ()), ())) K) (K (.exit 0) (mkSt pa40_4 ((), ()))) (fun r0 => K .ret (mkSt pb40_4 ((r0, ()), ()))) v0 v1 := by kernel_rfl
theorem it40_4 {R : Type} (d : Nat) (K : Ex → St → Option R) : ∀ (n : Nat) (v0 : List UInt8) (v1 : Int),
    iter (some k40_4) (runD env40 (d + 6) 40 c40_4) n (mkSt p40_4 ((v0, v1, ()), ())) K = obind (lp40_4 n v0 v1) fun o => osum o (fun a => K (.exit 0) (mkSt pa40_4 a)) fun b => K .ret (mkSt pb40_4 b)
  | 0, _, _ => rfl
  | n + 1, v0, v1 => by
    rw [step40_4]
    simp only [it40_4 d K n, lp40_4, st40_4, obind_cond, obind_none, obind_some, obind_obind, obind_osum]
    try simp only [osum]
theorem ok40_4 : LoopOk env40 40 c40_4 ls40_4 := loopBy_ok (by kernel_rfl) fun R d K v o h => ⟨fuelN, (it40_4 d K fuelN (v.1.1) (v.1.2.1)).trans (congrArg (fun o => obind o _) h)⟩
theorem run40 (x0 : List UInt8) : runF env40 40 [.str] [(.int .i64, false)] (x0, ()) = fn40 x0 := by kernel_rfl
theorem lat40 : loopsAt b40 = [c40_4] := by kernel_rfl
theorem lok40 : loopsOk env40 40 b40 := loopsOk_at b40 (fun _ => rfl) (by rw [lat40]; exact (List.forall_mem_cons.2 ⟨(fun L h => by rw [show env40.lp 40 (firstRegion c40_4) = some ls40_4 by kernel_rfl] at h; cases h; exact ok40_4), (fun _ h => absurd h List.not_mem_nil)⟩))
theorem env40_ok : EnvOk env40 := envOf_ok tok mixed noGor (sg := [(59, sum59)]) (List.forall_mem_cons.2 ⟨(sum59_ok), (fun _ h => absurd h List.not_mem_nil)⟩) (fn := Try.f40) (c := b40) (by kernel_rfl) (by kernel_rfl) lok40 rf_ok chk_ok
theorem sum40_ok : SumOk Try.prog 40 sum40 := sum_of_run env40_ok (by decide) fun x y h => (run40 (x.1)).trans h

/-! ### quillwort/oper.Redirects -/
def fn41 (x0 : Int) : Option (Bool × Unit) :=
  bif (leI 4 x0) then
    some ((leI x0 12), ())
  else
  some (false, ())
def sum41 : Sum := (⟨[.int .i64], [(.bool, false)], fun x => fn41 x.1⟩ : Sum)
noncomputable def env41 : Env := envOf Try.prog tt 41 [] [] []
theorem run41 (x0 : Int) : runF env41 41 [.int .i64] [(.bool, false)] (x0, ()) = fn41 x0 := by kernel_rfl
theorem env41_ok : EnvOk env41 := envOf_ok tok mixed noGor (sg := []) (fun _ h => absurd h List.not_mem_nil) (fn := Try.f41) (c := (Try.f41.body).getD .skip) (by kernel_rfl) (by kernel_rfl) (loopsOk_none (fun _ => rfl) (fun _ => rfl) _) rf_ok chk_ok
theorem sum41_ok : SumOk Try.prog 41 sum41 := sum_of_run env41_ok (by decide) fun x y h => (run41 (x.1)).trans h

/-! ### quillwort/rules.operator -/
def fn26 (x0 : List UInt8) : Option (Int × Unit) :=
  obind (fn40 x0) fun y0 =>
    bif (eqI y0.1 1) then
      some (97, ())
    else
    bif (eqI y0.1 2) then
      some (111, ())
    else
    bif (eqI y0.1 3) then
      some (121, ())
    else
    obind (fn41 y0.1) fun y1 =>
      bif y1.1 then
        some (60, ())
      else
      bif (!(eqI y0.1 0)) then
        bif (inI x0 0) then
          some ((byteAt x0 0), ())
        else
        none
      else
      some (63, ())
def sum26 : Sum := (⟨[.str], [(.int .u8, false)], fun x => fn26 x.1⟩ : Sum)
noncomputable def env26 : Env := envOf Try.prog tt 26 [(40, sum40), (41, sum41)] [] []
theorem run26 (x0 : List UInt8) : runF env26 26 [.str] [(.int .u8, false)] (x0, ()) = fn26 x0 := by kernel_rfl
theorem env26_ok : EnvOk env26 := envOf_ok tok mixed noGor (sg := [(40, sum40), (41, sum41)]) (List.forall_mem_cons.2 ⟨(sum40_ok), (List.forall_mem_cons.2 ⟨(sum41_ok), (fun _ h => absurd h List.not_mem_nil)⟩)⟩) (fn := Try.f26) (c := (Try.f26.body).getD .skip) (by kernel_rfl) (by kernel_rfl) (loopsOk_none (fun _ => rfl) (fun _ => rfl) _) rf_ok chk_ok
theorem sum26_ok : SumOk Try.prog 26 sum26 := sum_of_run env26_ok (by decide) fun x y h => (run26 (x.1)).trans h

/-! ### quillwort/rules.word -/
def fn27 (x0 : List UInt8) : Option (Int × Unit) :=
  bif (eqS x0 [33]) then
    bif (eqS x0 [33]) then
      bif (inI x0 0) then
        some ((byteAt x0 0), ())
      else
      none
    else
    bif (eqS x0 [105, 102]) then
      some (105, ())
    else
    bif (eqS x0 [116, 104, 101, 110]) then
      some (116, ())
    else
    bif (eqS x0 [101, 108, 105, 102]) then
      some (101, ())
    else
    bif (eqS x0 [101, 108, 115, 101]) then
      some (108, ())
    else
    bif (eqS x0 [102, 105]) then
      some (102, ())
    else
    bif (eqS x0 [119, 104, 105, 108, 101]) then
      bif (eqS x0 [119, 104, 105, 108, 101]) then
        some (119, ())
      else
      bif (eqS x0 [100, 111]) then
        some (100, ())
      else
      bif (eqS x0 [100, 111, 110, 101]) then
        some (103, ())
      else
      bif (eqS x0 [102, 111, 114]) then
        some (114, ())
      else
      bif (eqS x0 [105, 110]) then
        some (107, ())
      else
      bif (eqS x0 [99, 97, 115, 101]) then
        some (99, ())
      else
      bif (eqS x0 [101, 115, 97, 99]) then
        some (122, ())
      else
      some (120, ())
    else
    bif (eqS x0 [117, 110, 116, 105, 108]) then
      some (119, ())
    else
    bif (eqS x0 [100, 111]) then
      some (100, ())
    else
    bif (eqS x0 [100, 111, 110, 101]) then
      some (103, ())
    else
    bif (eqS x0 [102, 111, 114]) then
      some (114, ())
    else
    bif (eqS x0 [105, 110]) then
      some (107, ())
    else
    bif (eqS x0 [99, 97, 115, 101]) then
      some (99, ())
    else
    bif (eqS x0 [101, 115, 97, 99]) then
      some (122, ())
    else
    some (120, ())
  else
  bif (eqS x0 [123]) then
    bif (eqS x0 [123]) then
      bif (inI x0 0) then
        some ((byteAt x0 0), ())
      else
      none
    else
    bif (eqS x0 [105, 102]) then
      some (105, ())
    else
    bif (eqS x0 [116, 104, 101, 110]) then
      some (116, ())
    else
    bif (eqS x0 [101, 108, 105, 102]) then
      some (101, ())
    else
    bif (eqS x0 [101, 108, 115, 101]) then
      some (108, ())
    else
    bif (eqS x0 [102, 105]) then
      some (102, ())
    else
    bif (eqS x0 [119, 104, 105, 108, 101]) then
      bif (eqS x0 [119, 104, 105, 108, 101]) then
        some (119, ())
      else
      bif (eqS x0 [100, 111]) then
        some (100, ())
      else
      bif (eqS x0 [100, 111, 110, 101]) then
        some (103, ())
      else
      bif (eqS x0 [102, 111, 114]) then
        some (114, ())
      else
      bif (eqS x0 [105, 110]) then
        some (107, ())
      else
      bif (eqS x0 [99, 97, 115, 101]) then
        some (99, ())
      else
      bif (eqS x0 [101, 115, 97, 99]) then
        some (122, ())
      else
      some (120, ())
    else
    bif (eqS x0 [117, 110, 116, 105, 108]) then
      some (119, ())
    else
    bif (eqS x0 [100, 111]) then
      some (100, ())
    else
    bif (eqS x0 [100, 111, 110, 101]) then
      some (103, ())
    else
    bif (eqS x0 [102, 111, 114]) then
      some (114, ())
    else
    bif (eqS x0 [105, 110]) then
      some (107, ())
    else
    bif (eqS x0 [99, 97, 115, 101]) then
      some (99, ())
    else
    bif (eqS x0 [101, 115, 97, 99]) then
      some (122, ())
    else
    some (120, ())
  else
  bif (eqS x0 [125]) then
    bif (inI x0 0) then
      some ((byteAt x0 0), ())
    else
    none
  else
  bif (eqS x0 [105, 102]) then
    some (105, ())
  else
  bif (eqS x0 [116, 104, 101, 110]) then
    some (116, ())
  else
  bif (eqS x0 [101, 108, 105, 102]) then
    some (101, ())
  else
  bif (eqS x0 [101, 108, 115, 101]) then
    some (108, ())
  else
  bif (eqS x0 [102, 105]) then
    some (102, ())
  else
  bif (eqS x0 [119, 104, 105, 108, 101]) then
    bif (eqS x0 [119, 104, 105, 108, 101]) then
      some (119, ())
    else
    bif (eqS x0 [100, 111]) then
      some (100, ())
    else
    bif (eqS x0 [100, 111, 110, 101]) then
      some (103, ())
    else
    bif (eqS x0 [102, 111, 114]) then
      some (114, ())
    else
    bif (eqS x0 [105, 110]) then
      some (107, ())
    else
    bif (eqS x0 [99, 97, 115, 101]) then
      some (99, ())
    else
    bif (eqS x0 [101, 115, 97, 99]) then
      some (122, ())
    else
    some (120, ())
  else
  bif (eqS x0 [117, 110, 116, 105, 108]) then
    some (119, ())
  else
  bif (eqS x0 [100, 111]) then
    some (100, ())
  else
  bif (eqS x0 [100, 111, 110, 101]) then
    some (103, ())
  else
  bif (eqS x0 [102, 111, 114]) then
    some (114, ())
  else
  bif (eqS x0 [105, 110]) then
    some (107, ())
  else
  bif (eqS x0 [99, 97, 115, 101]) then
    some (99, ())
  else
  bif (eqS x0 [101, 115, 97, 99]) then
    some (122, ())
  else
  some (120, ())
def sum27 : Sum := (⟨[.str], [(.int .u8, false)], fun x => fn27 x.1⟩ : Sum)
noncomputable def env27 : Env := envOf Try.prog tt 27 [] [] []
theorem run27 (x0 : List UInt8) : runF env27 27 [.str] [(.int .u8, false)] (x0, ()) = fn27 x0 := by kernel_rfl
theorem env27_ok : EnvOk env27 := envOf_ok tok mixed noGor (sg := []) (fun _ h => absurd h List.not_mem_nil) (fn := Try.f27) (c := (Try.f27.body).getD .skip) (by kernel_rfl) (by kernel_rfl) (loopsOk_none (fun _ => rfl) (fun _ => rfl) _) rf_ok chk_ok
theorem sum27_ok : SumOk Try.prog 27 sum27 := sum_of_run env27_ok (by decide) fun x y h => (run27 (x.1)).trans h

/-! ### quillwort/rules.Sign -/
def fn10 (x0 : Int × (List UInt8) × (Int × Int × Unit)) : Option (Int × Unit) :=
  bif (eqI x0.1 2) then
    some (110, ())
  else
  bif (eqI x0.1 4) then
    obind (fn26 x0.2.1) fun y0 =>
      some (y0.1, ())
  else
  bif (eqI x0.1 5) then
    some (35, ())
  else
  bif (eqI x0.1 6) then
    obind (fn27 x0.2.1) fun y0 =>
      some (y0.1, ())
  else
  some (63, ())
def sum10 : Sum := (⟨[.pair (.int .i64) (.pair .str (.pair (.int .i64) (.pair (.int .i64) .unit)))], [(.int .u8, false)], fun x => fn10 x.1⟩ : Sum)
noncomputable def env10 : Env := envOf Try.prog tt 10 [(26, sum26), (27, sum27)] [] []
theorem run10 (x0 : Int × (List UInt8) × (Int × Int × Unit)) : runF env10 10 [.pair (.int .i64) (.pair .str (.pair (.int .i64) (.pair (.int .i64) .unit)))] [(.int .u8, false)] (x0, ()) = fn10 x0 := by kernel_rfl
theorem env10_ok : EnvOk env10 := envOf_ok tok mixed noGor (sg := [(26, sum26), (27, sum27)]) (List.forall_mem_cons.2 ⟨(sum26_ok), (List.forall_mem_cons.2 ⟨(sum27_ok), (fun _ h => absurd h List.not_mem_nil)⟩)⟩) (fn := Try.f10) (c := (Try.f10.body).getD .skip) (by kernel_rfl) (by kernel_rfl) (loopsOk_none (fun _ => rfl) (fun _ => rfl) _) rf_ok chk_ok
theorem sum10_ok : SumOk Try.prog 10 sum10 := sum_of_run env10_ok (by decide) fun x y h => (run10 (x.1)).trans h

/-! ### quillwort/quillwortref04.In -/
noncomputable def b37 : Code := (Try.f37.body).getD .skip
noncomputable def c37_2 : Code := cA (cA (cB (cA (cB (b37)))))
def k37_2 : Keep := ⟨[0, 1, 5, 100002], [], [], [], [4], []⟩
def p37_2 : SP := ⟨us [.v (.int .u8), .v .str, .u, .u, .u, .v (.int .i64)] 11, []⟩
def pa37_2 : SP := ⟨us [] 17, []⟩
def pb37_2 : SP := ⟨us [.u, .u, .u, .u, .v .bool] 12, []⟩
def st37_2 {γ : Type} (rec : Int → (List UInt8) → Int → Option γ) (kE : Option γ) (kR : Bool → Option γ) (v0 : Int) (v1 : List UInt8) (v2 : Int) : Option γ :=
  bif (ltI v2 (lenI v1)) then
    bif (inI v1 v2) then
      bif (eqI (byteAt v1 v2) v0) then
        kR true
      else
      rec v0 v1 (addK .i64 v2 1)
    else
    none
  else
  kE 
def lp37_2 : Nat → Int → (List UInt8) → Int → Option (pa37_2.den ⊕ pb37_2.den)
  | 0, _, _, _ => none
  | n + 1, v0, v1, v2 => st37_2 (lp37_2 n) (some (.inl ((), ()))) (fun r0 => some (.inr ((r0, ()), ()))) v0 v1 v2
noncomputable def ls37_2 : LoopSum := loopBy k37_2 p37_2 pa37_2 pb37_2 (.exit 0) (fun v => lp37_2 fuelN v.1.1 v.1.2.1 v.1.2.2.1) 6
def fn37 (x0 : Int) (x1 : List UInt8) : Option (Bool × Unit) :=
  obind (lp37_2 fuelN x0 x1 0) fun y0 =>
    osum y0 (fun a1 =>
      some (false, ())) (fun b1 =>
      some (b1.1.1, ()))
def sum37 : Sum := (⟨[.int .u8, .str], [(.bool, false)], fun x => fn37 x.1 x.2.1⟩ : Sum)
noncomputable def env37 : Env := envOf Try.prog tt 37 [] [(2, k37_2)] [(2, ls37_2)]
theorem step37_2 {R : Type} (d : Nat) (n : Nat) (K : Ex → St → Option R) (v0 : Int) (v1 : List UInt8) (v2 : Int) :
    iter (some k37_2) (runD env37 (d + 6) 37 c37_2) (n + 1) (mkSt p37_2 ((v0, v1, v2, ()), ())) K =
      st37_2 (fun v0 v1 v2 => iter (some k37_2) (runD env37 (d + 6) 37 c37_2) n (mkSt p37_2 ((v0, v1, v2, ()), ())) K) (K (.exit 0) (mkSt pa37_2 ((), ()))) (fun r0 => K .ret (mkSt pb37_2 ((r0, ()), ()))) v0 v1 v2 := by kernel_rfl
theorem it37_2 {R : Type} (d : Nat) (K : Ex → St → Option R) : ∀ (n : Nat) (v0 : Int) (v1 : List UInt8) (v2 : Int),
    iter (some k37_2) (runD env37 (d + 6) 37 c37_2) n (mkSt p37_2 ((v0, v1, v2, ()), ())) K = obind (lp37_2 n v0 v1 v2) fun o => osum o (fun a => K (.exit 0) (mkSt pa37_2 a)) fun b => K .ret (mkSt pb37_2 b)
  | 0, _, _, _ => rfl
  | n + 1, v0, v1, v2 => by
    rw [step37_2]
    simp only [it37_2 d K n, lp37_2, st37_2, obind_cond, obind_none, obind_some, obind_obind, obind_osum]
    try simp only [osum]
theorem ok37_2 : LoopOk env37 37 c37_2 ls37_2 := loopBy_ok (by kernel_rfl) fun R d K v o h => ⟨fuelN, (it37_2 d K fuelN (v.1.1) (v.1.2.1) (v.1.2.2.1)).trans (congrArg (fun o => obind o _) h)⟩
theorem run37 (x0 : Int) (x1 : List UInt8) : runF env37 37 [.int .u8, .str] [(.bool, false)] (x0, x1, ()) = fn37 x0 x1 := by kernel_rfl
theorem lat37 : loopsAt b37 = [c37_2] := by kernel_rfl
theorem lok37 : loopsOk env37 37 b37 := loopsOk_at b37 (fun _ => rfl) (by rw [lat37]; exact (List.forall_mem_cons.2 ⟨(fun L h => by rw [show env37.lp 37 (firstRegion c37_2) = some ls37_2 by kernel_rfl] at h; cases h; exact ok37_2), (fun _ h => absurd h List.not_mem_nil)⟩))
theorem env37_ok : EnvOk env37 := envOf_ok tok mixed noGor (sg := []) (fun _ h => absurd h List.not_mem_nil) (fn := Try.f37) (c := b37) (by kernel_rfl) (by kernel_rfl) lok37 rf_ok chk_ok
theorem sum37_ok : SumOk Try.prog 37 sum37 := sum_of_run env37_ok (by decide) fun x y h => (run37 (x.1) (x.2.1)).trans h

/-! ### quillwort/quillwortref05.Text -/
noncomputable def b28 : Code := (Try.f28.body).getD .skip
noncomputable def c28_4 : Code := cA (cA (cA (cB (cB (cB (b28))))))
def k28_4 : Keep := ⟨[3, 100004], [], [3], [], [2], []⟩
def p28_4 : SP := ⟨us [.u, .u, .u, .v .str] 29, []⟩
def pa28_4 : SP := ⟨us [.u, .u, .u, .v .str] 29, []⟩
def pb28_4 : SP := ⟨us [.u, .u, .v .str] 30, []⟩
def st28_4 {γ : Type} (rec : (List UInt8) → Option γ) (kE : (List UInt8) → Option γ) (kR : (List UInt8) → Option γ) (v0 : List UInt8) : Option γ :=
  bif (ltI 0 (lenI v0)) then
    bif (inI v0 (subK .i64 (lenI v0) 1)) then
      bif (eqI (byteAt v0 (subK .i64 (lenI v0) 1)) 32) then
        bif (partI (lenI v0) 0 (subK .i64 (lenI v0) 1)) then
          rec (sub v0 0 (subK .i64 (lenI v0) 1))
        else
        none
      else
      kE v0
    else
    none
  else
  kE v0
def lp28_4 : Nat → (List UInt8) → Option (pa28_4.den ⊕ pb28_4.den)
  | 0, _ => none
  | n + 1, v0 => st28_4 (lp28_4 n) (fun e0 => some (.inl ((e0, ()), ()))) (fun r0 => some (.inr ((r0, ()), ()))) v0
noncomputable def ls28_4 : LoopSum := loopBy k28_4 p28_4 pa28_4 pb28_4 (.exit 0) (fun v => lp28_4 fuelN v.1.1) 6
def fn28 (x0 : Int) : Option ((List UInt8) × Unit) :=
  bif (ltI x0 1) then
    some ([], ())
  else
  bif (ltI 17 x0) then
    some ([], ())
  else
  bif (partI (lenI [38, 38, 32, 124, 124, 32, 59, 59, 32, 60, 60, 32, 60, 60, 45, 62, 62, 32, 60, 38, 32, 62, 38, 32, 60, 62, 32, 62, 124, 32, 60, 32, 32, 62, 32, 32, 38, 32, 32, 59, 32, 32, 124, 32, 32, 40, 32, 32, 41, 32, 32]) (mulK .i64 3 (subK .i64 x0 1)) (mulK .i64 3 x0)) then
    obind (lp28_4 fuelN (sub [38, 38, 32, 124, 124, 32, 59, 59, 32, 60, 60, 32, 60, 60, 45, 62, 62, 32, 60, 38, 32, 62, 38, 32, 60, 62, 32, 62, 124, 32, 60, 32, 32, 62, 32, 32, 38, 32, 32, 59, 32, 32, 124, 32, 32, 40, 32, 32, 41, 32, 32] (mulK .i64 3 (subK .i64 x0 1)) (mulK .i64 3 x0))) fun y0 =>
      osum y0 (fun a1 =>
        some (a1.1.1, ())) (fun b1 =>
        some (b1.1.1, ()))
  else
  none
def sum28 : Sum := (⟨[.int .i64], [(.str, false)], fun x => fn28 x.1⟩ : Sum)
noncomputable def env28 : Env := envOf Try.prog tt 28 [] [(4, k28_4)] [(4, ls28_4)]
theorem step28_4 {R : Type} (d : Nat) (n : Nat) (K : Ex → St → Option R) (v0 : List UInt8) :
    iter (some k28_4) (runD env28 (d + 6) 28 c28_4) (n + 1) (mkSt p28_4 ((v0, ()), ())) K =
      st28_4 (fun v0 => iter (some k28_4) (runD env28 (d + 6) 28 c28_4) n (mkSt p28_4 ((v0, ()), ())) K) (fun e0 => K (.exit 0) (mkSt pa28_4 ((e0, ()), ()))) (fun r0 => K .ret (mkSt pb28_4 ((r0, ()), ()))) v0 := by kernel_rfl
theorem it28_4 {R : Type} (d : Nat) (K : Ex → St → Option R) : ∀ (n : Nat) (v0 : List UInt8),
    iter (some k28_4) (runD env28 (d + 6) 28 c28_4) n (mkSt p28_4 ((v0, ()), ())) K = obind (lp28_4 n v0) fun o => osum o (fun a => K (.exit 0) (mkSt pa28_4 a)) fun b => K .ret (mkSt pb28_4 b)
  | 0, _ => rfl
  | n + 1, v0 => by
    rw [step28_4]
    simp only [it28_4 d K n, lp28_4, st28_4, obind_cond, obind_none, obind_some, obind_obind, obind_osum]
    try simp only [osum]
theorem ok28_4 : LoopOk env28 28 c28_4 ls28_4 := loopBy_ok (by kernel_rfl) fun R d K v o h => ⟨fuelN, (it28_4 d K fuelN (v.1.1)).trans (congrArg (fun o => obind o _) h)⟩
theorem run28 (x0 : Int) : runF env28 28 [.int .i64] [(.str, false)] (x0, ()) = fn28 x0 := by kernel_rfl
theorem lat28 : loopsAt b28 = [c28_4] := by kernel_rfl
theorem lok28 : loopsOk env28 28 b28 := loopsOk_at b28 (fun _ => rfl) (by rw [lat28]; exact (List.forall_mem_cons.2 ⟨(fun L h => by rw [show env28.lp 28 (firstRegion c28_4) = some ls28_4 by kernel_rfl] at h; cases h; exact ok28_4), (fun _ h => absurd h List.not_mem_nil)⟩))
theorem env28_ok : EnvOk env28 := envOf_ok tok mixed noGor (sg := []) (fun _ h => absurd h List.not_mem_nil) (fn := Try.f28) (c := b28) (by kernel_rfl) (by kernel_rfl) lok28 rf_ok chk_ok
theorem sum28_ok : SumOk Try.prog 28 sum28 := sum_of_run env28_ok (by decide) fun x y h => (run28 (x.1)).trans h

/-! ### quillwort/quillwortref04.Reserved -/
noncomputable def b19 : Code := (Try.f19.body).getD .skip
noncomputable def c19_5 : Code := cA (cA (cB (cA (cB (cB (cB (b19)))))))
def k19_5 : Keep := ⟨[3, 4, 100005], [], [], [], [2], []⟩
def p19_5 : SP := ⟨us [.u, .u, .u, .v .str, .v (.int .i64)] 25, []⟩
def pa19_5 : SP := ⟨us [] 30, []⟩
def pb19_5 : SP := ⟨us [.u, .u, .v .bool] 27, []⟩
def st19_5 {γ : Type} (rec : (List UInt8) → Int → Option γ) (kE : Option γ) (kR : Bool → Option γ) (v0 : List UInt8) (v1 : Int) : Option γ :=
  bif (leI (addK .i64 v1 (lenI v0)) 65) then
    bif (partI (lenI [32, 33, 32, 123, 32, 125, 32, 99, 97, 115, 101, 32, 100, 111, 32, 100, 111, 110, 101, 32, 101, 108, 105, 102, 32, 101, 108, 115, 101, 32, 101, 115, 97, 99, 32, 102, 105, 32, 102, 111, 114, 32, 105, 102, 32, 105, 110, 32, 116, 104, 101, 110, 32, 117, 110, 116, 105, 108, 32, 119, 104, 105, 108, 101, 32]) v1 (addK .i64 v1 (lenI v0))) then
      bif (eqS (sub [32, 33, 32, 123, 32, 125, 32, 99, 97, 115, 101, 32, 100, 111, 32, 100, 111, 110, 101, 32, 101, 108, 105, 102, 32, 101, 108, 115, 101, 32, 101, 115, 97, 99, 32, 102, 105, 32, 102, 111, 114, 32, 105, 102, 32, 105, 110, 32, 116, 104, 101, 110, 32, 117, 110, 116, 105, 108, 32, 119, 104, 105, 108, 101, 32] v1 (addK .i64 v1 (lenI v0))) v0) then
        kR true
      else
      rec v0 (addK .i64 v1 1)
    else
    none
  else
  kE 
def lp19_5 : Nat → (List UInt8) → Int → Option (pa19_5.den ⊕ pb19_5.den)
  | 0, _, _ => none
  | n + 1, v0, v1 => st19_5 (lp19_5 n) (some (.inl ((), ()))) (fun r0 => some (.inr ((r0, ()), ()))) v0 v1
noncomputable def ls19_5 : LoopSum := loopBy k19_5 p19_5 pa19_5 pb19_5 (.exit 0) (fun v => lp19_5 fuelN v.1.1 v.1.2.1) 6
def fn19 (x0 : List UInt8) : Option (Bool × Unit) :=
  bif (eqI (lenI x0) 0) then
    some (false, ())
  else
  obind (fn37 32 x0) fun y0 =>
    bif y0.1 then
      some (false, ())
    else
    bif (roomS [32] x0) then
      bif (roomS (catL [32] x0) [32]) then
        obind (lp19_5 fuelN (catL (catL [32] x0) [32]) 0) fun y1 =>
          osum y1 (fun a2 =>
            some (false, ())) (fun b2 =>
            some (b2.1.1, ()))
      else
      none
    else
    none
def sum19 : Sum := (⟨[.str], [(.bool, false)], fun x => fn19 x.1⟩ : Sum)
noncomputable def env19 : Env := envOf Try.prog tt 19 [(37, sum37)] [(5, k19_5)] [(5, ls19_5)]
theorem step19_5 {R : Type} (d : Nat) (n : Nat) (K : Ex → St → Option R) (v0 : List UInt8) (v1 : Int) :
    iter (some k19_5) (runD env19 (d + 6) 19 c19_5) (n + 1) (mkSt p19_5 ((v0, v1, ()), ())) K =
      st19_5 (fun v0 v1 => iter (some k19_5) (runD env19 (d + 6) 19 c19_5) n (mkSt p19_5 ((v0, v1, ()), ())) K) (K (.exit 0) (mkSt pa19_5 ((), ()))) (fun r0 => K .ret (mkSt pb19_5 ((r0, ()), ()))) v0 v1 := by kernel_rfl
theorem it19_5 {R : Type} (d : Nat) (K : Ex → St → Option R) : ∀ (n : Nat) (v0 : List UInt8) (v1 : Int),
    iter (some k19_5) (runD env19 (d + 6) 19 c19_5) n (mkSt p19_5 ((v0, v1, ()), ())) K = obind (lp19_5 n v0 v1) fun o => osum o (fun a => K (.exit 0) (mkSt pa19_5 a)) fun b => K .ret (mkSt pb19_5 b)
  | 0, _, _ => rfl
  | n + 1, v0, v1 => by
    rw [step19_5]
    simp only [it19_5 d K n, lp19_5, st19_5, obind_cond, obind_none, obind_some, obind_obind, obind_osum]
    try simp only [osum]
theorem ok19_5 : LoopOk env19 19 c19_5 ls19_5 := loopBy_ok (by kernel_rfl) fun R d K v o h => ⟨fuelN, (it19_5 d K fuelN (v.1.1) (v.1.2.1)).trans (congrArg (fun o => obind o _) h)⟩
theorem run19 (x0 : List UInt8) : runF env19 19 [.str] [(.bool, false)] (x0, ()) = fn19 x0 := by kernel_rfl
theorem lat19 : loopsAt b19 = [c19_5] := by kernel_rfl
theorem lok19 : loopsOk env19 19 b19 := loopsOk_at b19 (fun _ => rfl) (by rw [lat19]; exact (List.forall_mem_cons.2 ⟨(fun L h => by rw [show env19.lp 19 (firstRegion c19_5) = some ls19_5 by kernel_rfl] at h; cases h; exact ok19_5), (fun _ h => absurd h List.not_mem_nil)⟩))
theorem env19_ok : EnvOk env19 := envOf_ok tok mixed noGor (sg := [(37, sum37)]) (List.forall_mem_cons.2 ⟨(sum37_ok), (fun _ h => absurd h List.not_mem_nil)⟩) (fn := Try.f19) (c := b19) (by kernel_rfl) (by kernel_rfl) lok19 rf_ok chk_ok
theorem sum19_ok : SumOk Try.prog 19 sum19 := sum_of_run env19_ok (by decide) fun x y h => (run19 (x.1)).trans h

/-! ### quillwort/quillwortref12.Sign -/
noncomputable def b11 : Code := (Try.f11.body).getD .skip
noncomputable def c11_7 : Code := cA (cA (cB (cA (cA (cB (cA (cB (cB (cB (b11))))))))))
def k11_7 : Keep := ⟨[1, 3, 100007], [], [], [], [2], []⟩
def p11_7 : SP := ⟨us [.u, .ptr 1000001 0, .u, .v (.int .i64)] 59, [.box 1000001 23 [.v (.int .i64), .v .str, .v (.int .i64), .v (.int .i64)]]⟩
def pa11_7 : SP := ⟨us [] 63, []⟩
def pb11_7 : SP := ⟨us [.u, .u, .v .str] 60, []⟩
def st11_7 {γ : Type} (rec : Int → Int → (List UInt8) → Int → Int → Option γ) (kE : Option γ) (kR : (List UInt8) → Option γ) (v0 : Int) (v1 : Int) (v2 : List UInt8) (v3 : Int) (v4 : Int) : Option γ :=
  bif (leI v0 17) then
    obind (fn28 v0) fun y0 =>
      bif (eqS y0.1 v2) then
        bif (partI (lenI [97, 111, 121, 60, 60, 60, 60, 60, 60, 60, 60, 60, 38, 59, 124, 40, 41]) (subK .i64 v0 1) v0) then
          kR (sub [97, 111, 121, 60, 60, 60, 60, 60, 60, 60, 60, 60, 38, 59, 124, 40, 41] (subK .i64 v0 1) v0)
        else
        none
      else
      rec (addK .i64 v0 1) v1 v2 v3 v4
  else
  kE 
def lp11_7 : Nat → Int → Int → (List UInt8) → Int → Int → Option (pa11_7.den ⊕ pb11_7.den)
  | 0, _, _, _, _, _ => none
  | n + 1, v0, v1, v2, v3, v4 => st11_7 (lp11_7 n) (some (.inl ((), ()))) (fun r0 => some (.inr ((r0, ()), ()))) v0 v1 v2 v3 v4
noncomputable def ls11_7 : LoopSum := loopBy k11_7 p11_7 pa11_7 pb11_7 (.exit 0) (fun v => lp11_7 fuelN v.1.1 v.2.1.1 v.2.1.2.1 v.2.1.2.2.1 v.2.1.2.2.2.1) 6
def fn11 (x0 : Int × (List UInt8) × (Int × Int × Unit)) : Option ((List UInt8) × Unit) :=
  bif (eqI x0.1 2) then
    some ([110], ())
  else
  bif (eqI x0.1 5) then
    some ([35], ())
  else
  bif (eqI x0.1 4) then
    obind (lp11_7 fuelN 1 x0.1 x0.2.1 x0.2.2.1 x0.2.2.2.1) fun y0 =>
      osum y0 (fun a1 =>
        some ([63], ())) (fun b1 =>
        some (b1.1.1, ()))
  else
  bif (!(eqI x0.1 6)) then
    some ([63], ())
  else
  obind (fn19 x0.2.1) fun y0 =>
    bif (!y0.1) then
      some ([120], ())
    else
    bif (eqI (lenI x0.2.1) 1) then
      some (x0.2.1, ())
    else
    bif (eqS x0.2.1 [105, 102]) then
      some ([105], ())
    else
    bif (eqS x0.2.1 [105, 110]) then
      some ([107], ())
    else
    bif (eqS x0.2.1 [101, 108, 115, 101]) then
      some ([108], ())
    else
    bif (eqS x0.2.1 [101, 115, 97, 99]) then
      some ([122], ())
    else
    bif (eqS x0.2.1 [102, 111, 114]) then
      some ([114], ())
    else
    bif (eqS x0.2.1 [100, 111, 110, 101]) then
      some ([103], ())
    else
    bif (eqS x0.2.1 [117, 110, 116, 105, 108]) then
      some ([119], ())
    else
    bif (partI (lenI x0.2.1) 0 1) then
      some ((sub x0.2.1 0 1), ())
    else
    none
def sum11 : Sum := (⟨[.pair (.int .i64) (.pair .str (.pair (.int .i64) (.pair (.int .i64) .unit)))], [(.str, false)], fun x => fn11 x.1⟩ : Sum)
noncomputable def env11 : Env := envOf Try.prog tt 11 [(19, sum19), (28, sum28)] [(7, k11_7)] [(7, ls11_7)]
theorem step11_7 {R : Type} (d : Nat) (n : Nat) (K : Ex → St → Option R) (v0 : Int) (v1 : Int) (v2 : List UInt8) (v3 : Int) (v4 : Int) :
    iter (some k11_7) (runD env11 (d + 6) 11 c11_7) (n + 1) (mkSt p11_7 ((v0, ()), ((v1, v2, v3, v4, ()), ()))) K =
      st11_7 (fun v0 v1 v2 v3 v4 => iter (some k11_7) (runD env11 (d + 6) 11 c11_7) n (mkSt p11_7 ((v0, ()), ((v1, v2, v3, v4, ()), ()))) K) (K (.exit 0) (mkSt pa11_7 ((), ()))) (fun r0 => K .ret (mkSt pb11_7 ((r0, ()), ()))) v0 v1 v2 v3 v4 := by kernel_rfl
theorem it11_7 {R : Type} (d : Nat) (K : Ex → St → Option R) : ∀ (n : Nat) (v0 : Int) (v1 : Int) (v2 : List UInt8) (v3 : Int) (v4 : Int),
    iter (some k11_7) (runD env11 (d + 6) 11 c11_7) n (mkSt p11_7 ((v0, ()), ((v1, v2, v3, v4, ()), ()))) K = obind (lp11_7 n v0 v1 v2 v3 v4) fun o => osum o (fun a => K (.exit 0) (mkSt pa11_7 a)) fun b => K .ret (mkSt pb11_7 b)
  | 0, _, _, _, _, _ => rfl
  | n + 1, v0, v1, v2, v3, v4 => by
    rw [step11_7]
    simp only [it11_7 d K n, lp11_7, st11_7, obind_cond, obind_none, obind_some, obind_obind, obind_osum]
    try simp only [osum]
theorem ok11_7 : LoopOk env11 11 c11_7 ls11_7 := loopBy_ok (by kernel_rfl) fun R d K v o h => ⟨fuelN, (it11_7 d K fuelN (v.1.1) (v.2.1.1) (v.2.1.2.1) (v.2.1.2.2.1) (v.2.1.2.2.2.1)).trans (congrArg (fun o => obind o _) h)⟩
theorem run11 (x0 : Int × (List UInt8) × (Int × Int × Unit)) : runF env11 11 [.pair (.int .i64) (.pair .str (.pair (.int .i64) (.pair (.int .i64) .unit)))] [(.str, false)] (x0, ()) = fn11 x0 := by kernel_rfl
theorem lat11 : loopsAt b11 = [c11_7] := by kernel_rfl
theorem lok11 : loopsOk env11 11 b11 := loopsOk_at b11 (fun _ => rfl) (by rw [lat11]; exact (List.forall_mem_cons.2 ⟨(fun L h => by rw [show env11.lp 11 (firstRegion c11_7) = some ls11_7 by kernel_rfl] at h; cases h; exact ok11_7), (fun _ h => absurd h List.not_mem_nil)⟩))
theorem env11_ok : EnvOk env11 := envOf_ok tok mixed noGor (sg := [(19, sum19), (28, sum28)]) (List.forall_mem_cons.2 ⟨(sum19_ok), (List.forall_mem_cons.2 ⟨(sum28_ok), (fun _ h => absurd h List.not_mem_nil)⟩)⟩) (fn := Try.f11) (c := b11) (by kernel_rfl) (by kernel_rfl) lok11 rf_ok chk_ok
theorem sum11_ok : SumOk Try.prog 11 sum11 := sum_of_run env11_ok (by decide) fun x y h => (run11 (x.1)).trans h

/-! ### quillwort/quillwortlaw12.RulesSigns -/
def fn3 (x0 : Int × (List UInt8) × (Int × Int × Unit)) : Option (Bool × Unit) :=
  bif (ltI 60 (lenI x0.2.1)) then
    some (true, ())
  else
  obind (fn10 (x0.1, (x0.2.1, (x0.2.2.1, (x0.2.2.2.1, ()))))) fun y0 =>
    obind (fn11 (x0.1, (x0.2.1, (x0.2.2.1, (x0.2.2.2.1, ()))))) fun y1 =>
      bif ((eqI x0.1 x0.1) && ((eqS x0.2.1 x0.2.1) && ((eqI x0.2.2.1 x0.2.2.1) && ((eqI x0.2.2.2.1 x0.2.2.2.1) && true)))) then
        bif ((eqI x0.1 x0.1) && ((eqS x0.2.1 x0.2.1) && ((eqI x0.2.2.1 x0.2.2.1) && ((eqI x0.2.2.2.1 x0.2.2.2.1) && true)))) then
          bif ((((eqI x0.1 x0.1) && ((eqS x0.2.1 x0.2.1) && ((eqI x0.2.2.1 x0.2.2.1) && ((eqI x0.2.2.2.1 x0.2.2.2.1) && true)))) && true) && ((eqS y1.1 y1.1) && true)) then
            some ((eqS (ofBytes [y0.1]) y1.1), ())
          else
          none
        else
        none
      else
      none
def sum3 : Sum := (⟨[.pair (.int .i64) (.pair .str (.pair (.int .i64) (.pair (.int .i64) .unit)))], [(.bool, false)], fun x => fn3 x.1⟩ : Sum)
noncomputable def env3 : Env := envOf Try.prog tt 3 [(9, sumAwake), (10, sum10), (11, sum11)] [] []
theorem run3 (x0 : Int × (List UInt8) × (Int × Int × Unit)) : runF env3 3 [.pair (.int .i64) (.pair .str (.pair (.int .i64) (.pair (.int .i64) .unit)))] [(.bool, false)] (x0, ()) = fn3 x0 := by kernel_rfl
theorem env3_ok : EnvOk env3 := envOf_ok tok mixed noGor (sg := [(9, sumAwake), (10, sum10), (11, sum11)]) (List.forall_mem_cons.2 ⟨(sumAwake_ok), (List.forall_mem_cons.2 ⟨(sum10_ok), (List.forall_mem_cons.2 ⟨(sum11_ok), (fun _ h => absurd h List.not_mem_nil)⟩)⟩)⟩) (fn := Try.f3) (c := (Try.f3.body).getD .skip) (by kernel_rfl) (by kernel_rfl) (loopsOk_none (fun _ => rfl) (fun _ => rfl) _) rf_ok chk_ok
theorem sum3_ok : SumOk Try.prog 3 sum3 := sum_of_run env3_ok (by decide) fun x y h => (run3 (x.1)).trans h

end Go.Proofs.Ytkloefipjbeneaa
