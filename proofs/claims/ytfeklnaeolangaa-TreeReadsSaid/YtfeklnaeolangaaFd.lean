/-
  The plain functions of some functions of the program, and that they are computed.
-/
import Derived.Test.YtfeklnaeolangaaFb
namespace Go.Proofs.Ytfeklnaeolangaa
open Go.RowKit
set_option linter.unusedVariables false
set_option linter.unusedSimpArgs false
set_option maxRecDepth 100000

/-! ### internal/stringslite.IndexByte -/
def fn37 (x0 : List UInt8) (x1 : Int) : Option (Int × Unit) :=
  some ((ibW x0 x1), ())
def sum37 : Sum := (⟨[.str, .int .u8], [(.int .i64, false)], fun x => fn37 x.1 x.2.1⟩ : Sum)
noncomputable def env37 : Env := envOf Try.prog tt 37 [(38, sumIB)] [] []
theorem run37 (x0 : List UInt8) (x1 : Int) : runF env37 37 [.str, .int .u8] [(.int .i64, false)] (x0, x1, ()) = fn37 x0 x1 := by kernel_rfl
theorem env37_ok : EnvOk env37 := envOf_ok tok mixed noGor (sg := [(38, sumIB)]) (List.forall_mem_cons.2 ⟨(sumIB_ok Try.func38 (by kernel_rfl) (by kernel_rfl) (by kernel_rfl) (by kernel_rfl)), (fun _ h => absurd h List.not_mem_nil)⟩) (fn := Try.f37) (c := (Try.f37.body).getD .skip) (by kernel_rfl) (by kernel_rfl) (loopsOk_none (fun _ => rfl) _)
theorem sum37_ok : SumOk Try.prog 37 sum37 := sum_of_run env37_ok (by decide) fun x y h => (run37 (x.1) (x.2.1)).trans h

/-! ### strings.IndexByte -/
def fn33 (x0 : List UInt8) (x1 : Int) : Option (Int × Unit) :=
  obind (fn37 x0 x1) fun y0 =>
    some (y0.1, ())
def sum33 : Sum := (⟨[.str, .int .u8], [(.int .i64, false)], fun x => fn33 x.1 x.2.1⟩ : Sum)
noncomputable def env33 : Env := envOf Try.prog tt 33 [(37, sum37)] [] []
theorem run33 (x0 : List UInt8) (x1 : Int) : runF env33 33 [.str, .int .u8] [(.int .i64, false)] (x0, x1, ()) = fn33 x0 x1 := by kernel_rfl
theorem env33_ok : EnvOk env33 := envOf_ok tok mixed noGor (sg := [(37, sum37)]) (List.forall_mem_cons.2 ⟨(sum37_ok), (fun _ h => absurd h List.not_mem_nil)⟩) (fn := Try.f33) (c := (Try.f33.body).getD .skip) (by kernel_rfl) (by kernel_rfl) (loopsOk_none (fun _ => rfl) _)
theorem sum33_ok : SumOk Try.prog 33 sum33 := sum_of_run env33_ok (by decide) fun x y h => (run33 (x.1) (x.2.1)).trans h

/-! ### quillwort/tree.number -/
noncomputable def b34 : Code := (Try.f34.body).getD .skip
noncomputable def c34_2 : Code := cA (cA (cA (cB (cB (b34)))))
def k34_2 : Keep := ⟨[0, 1, 4, 5, 100002], [], [1, 4, 5], [], [4, 5, 6], []⟩
def p34_2 : SP := ⟨us [.v .str, .v (.int .i64), .u, .u, .v (.int .i64), .v (.int .i64)] 43, []⟩
def pa34_2 : SP := ⟨us [.u, .v (.int .i64), .u, .u, .v (.int .i64), .v (.int .i64)] 43, []⟩
def pb34_2 : SP := ⟨us [.u, .u, .u, .u, .v (.int .i64), .v (.int .i64), .v .bool] 42, []⟩
def st34_2 {γ : Type} (rec : (List UInt8) → Int → Int → Int → Option γ) (kE : Int → Int → Int → Option γ) (kR : Int → Int → Bool → Option γ) (v0 : List UInt8) (v1 : Int) (v2 : Int) (v3 : Int) : Option γ :=
  bif (ltI v3 (lenI v0)) then
    bif (ltI v3 (addK .i64 v1 7)) then
      bif (inI v0 v3) then
        bif (leI 48 (byteAt v0 v3)) then
          bif (inI v0 v3) then
            bif (leI (byteAt v0 v3) 57) then
              bif (inI v0 v3) then
                bif (inI v0 v1) then
                  bif (eqI (byteAt v0 v1) 48) then
                    kE v1 (addK .i64 (mulK .i64 v2 10) (wrapK .i64 (subK .u8 (byteAt v0 v3) 48))) (addK .i64 v3 1)
                  else
                  rec v0 v1 (addK .i64 (mulK .i64 v2 10) (wrapK .i64 (subK .u8 (byteAt v0 v3) 48))) (addK .i64 v3 1)
                else
                none
              else
              none
            else
            kE v1 v2 v3
          else
          none
        else
        kE v1 v2 v3
      else
      none
    else
    kE v1 v2 v3
  else
  kE v1 v2 v3
def lp34_2 : Nat → (List UInt8) → Int → Int → Int → Option (pa34_2.den ⊕ pb34_2.den)
  | 0, _, _, _, _ => none
  | n + 1, v0, v1, v2, v3 => st34_2 (lp34_2 n) (fun e0 e1 e2 => some (.inl ((e0, e1, e2, ()), ()))) (fun r0 r1 r2 => some (.inr ((r0, r1, r2, ()), ()))) v0 v1 v2 v3
def ls34_2 : LoopSum := loopBy k34_2 p34_2 pa34_2 pb34_2 (.exit 0) fun v => lp34_2 fuelN v.1.1 v.1.2.1 v.1.2.2.1 v.1.2.2.2.1
def fn34 (x0 : List UInt8) (x1 : Int) : Option (Int × Int × Bool × Unit) :=
  obind (lp34_2 fuelN x0 x1 0 x1) fun y0 =>
    osum y0 (fun a1 =>
      some (a1.1.2.1, (a1.1.2.2.1, ((ltI a1.1.1 a1.1.2.2.1), ())))) (fun b1 =>
      some (b1.1.1, (b1.1.2.1, (b1.1.2.2.1, ()))))
def sum34 : Sum := (⟨[.str, .int .i64], [(.int .i64, false), (.int .i64, false), (.bool, false)], fun x => fn34 x.1 x.2.1⟩ : Sum)
noncomputable def env34 : Env := envOf Try.prog tt 34 [] [(2, k34_2)] [(2, ls34_2)]
theorem step34_2 {R : Type} (x : ExecFn R) (xd : Job → St → Option AVal) (n : Nat) (K : Ex → St → Option R) (v0 : List UInt8) (v1 : Int) (v2 : Int) (v3 : Int) :
    iter (some k34_2) (run env34 x xd 34 c34_2) (n + 1) (mkSt p34_2 ((v0, v1, v2, v3, ()), ())) K =
      st34_2 (fun v0 v1 v2 v3 => iter (some k34_2) (run env34 x xd 34 c34_2) n (mkSt p34_2 ((v0, v1, v2, v3, ()), ())) K) (fun e0 e1 e2 => K (.exit 0) (mkSt pa34_2 ((e0, e1, e2, ()), ()))) (fun r0 r1 r2 => K .ret (mkSt pb34_2 ((r0, r1, r2, ()), ()))) v0 v1 v2 v3 := by kernel_rfl
theorem it34_2 {R : Type} (x : ExecFn R) (xd : Job → St → Option AVal) (K : Ex → St → Option R) : ∀ (n : Nat) (v0 : List UInt8) (v1 : Int) (v2 : Int) (v3 : Int),
    iter (some k34_2) (run env34 x xd 34 c34_2) n (mkSt p34_2 ((v0, v1, v2, v3, ()), ())) K = obind (lp34_2 n v0 v1 v2 v3) fun o => osum o (fun a => K (.exit 0) (mkSt pa34_2 a)) fun b => K .ret (mkSt pb34_2 b)
  | 0, _, _, _, _ => rfl
  | n + 1, v0, v1, v2, v3 => by
    rw [step34_2]
    simp only [it34_2 x xd K n, lp34_2, st34_2, obind_cond, obind_none, obind_some, obind_obind, obind_osum]
    try simp only [osum]
theorem ok34_2 : LoopOk env34 34 c34_2 ls34_2 := loopBy_ok (by kernel_rfl) fun R x xd K v o h => ⟨fuelN, (it34_2 x xd K fuelN (v.1.1) (v.1.2.1) (v.1.2.2.1) (v.1.2.2.2.1)).trans (congrArg (fun o => obind o _) h)⟩
theorem run34 (x0 : List UInt8) (x1 : Int) : runF env34 34 [.str, .int .i64] [(.int .i64, false), (.int .i64, false), (.bool, false)] (x0, x1, ()) = fn34 x0 x1 := by kernel_rfl
theorem lat34 : loopsAt b34 = [c34_2] := by kernel_rfl
theorem lok34 : loopsOk env34 34 b34 := loopsOk_at b34 (by rw [lat34]; exact (List.forall_mem_cons.2 ⟨(fun L h => by rw [show env34.lp 34 (firstRegion c34_2) = some ls34_2 by kernel_rfl] at h; cases h; exact ok34_2), (fun _ h => absurd h List.not_mem_nil)⟩))
theorem env34_ok : EnvOk env34 := envOf_ok tok mixed noGor (sg := []) (fun _ h => absurd h List.not_mem_nil) (fn := Try.f34) (c := b34) (by kernel_rfl) (by kernel_rfl) lok34
theorem sum34_ok : SumOk Try.prog 34 sum34 := sum_of_run env34_ok (by decide) fun x y h => (run34 (x.1) (x.2.1)).trans h

/-! ### quillwort/tree.node -/
def fn26 (x0 : List UInt8) (x1 : Int) : Option ((Int × Int × Int × Int × Unit) × Int × Bool × Unit) :=
  bif (leI (lenI x0) x1) then
    some ((0, (0, (0, (0, ())))), (x1, (false, ())))
  else
  bif (inI x0 x1) then
    bif (eqI (byteAt x0 x1) 63) then
      some ((0, (0, (0, (0, ())))), (x1, (false, ())))
    else
    bif (inI x0 x1) then
      obind (fn33 [63, 80, 76, 65, 73, 83, 88, 87, 82, 66, 85, 70, 72, 79, 67, 84, 78, 69, 77] (byteAt x0 x1)) fun y0 =>
        bif (ltI y0.1 0) then
          some ((y0.1, (0, (0, (0, ())))), (x1, (false, ())))
        else
        obind (fn34 x0 (addK .i64 x1 1)) fun y1 =>
          bif (!y1.2.2.1) then
            some ((y0.1, (y1.1, (0, (0, ())))), (y1.2.1, (false, ())))
          else
          bif (leI (lenI x0) y1.2.1) then
            some ((y0.1, (y1.1, (0, (0, ())))), (y1.2.1, (false, ())))
          else
          bif (inI x0 y1.2.1) then
            bif (!(eqI (byteAt x0 y1.2.1) 45)) then
              some ((y0.1, (y1.1, (0, (0, ())))), (y1.2.1, (false, ())))
            else
            obind (fn34 x0 (addK .i64 y1.2.1 1)) fun y2 =>
              some ((y0.1, (y1.1, (y2.1, (0, ())))), (y2.2.1, (y2.2.2.1, ())))
          else
          none
    else
    none
  else
  none
def sum26 : Sum := (⟨[.str, .int .i64], [(.pair (.int .i64) (.pair (.int .i64) (.pair (.int .i64) (.pair (.int .i64) .unit))), false), (.int .i64, false), (.bool, false)], fun x => fn26 x.1 x.2.1⟩ : Sum)
noncomputable def env26 : Env := envOf Try.prog tt 26 [(33, sum33), (34, sum34)] [] []
theorem run26 (x0 : List UInt8) (x1 : Int) : runF env26 26 [.str, .int .i64] [(.pair (.int .i64) (.pair (.int .i64) (.pair (.int .i64) (.pair (.int .i64) .unit))), false), (.int .i64, false), (.bool, false)] (x0, x1, ()) = fn26 x0 x1 := by kernel_rfl
theorem env26_ok : EnvOk env26 := envOf_ok tok mixed noGor (sg := [(33, sum33), (34, sum34)]) (List.forall_mem_cons.2 ⟨(sum33_ok), (List.forall_mem_cons.2 ⟨(sum34_ok), (fun _ h => absurd h List.not_mem_nil)⟩)⟩) (fn := Try.f26) (c := (Try.f26.body).getD .skip) (by kernel_rfl) (by kernel_rfl) (loopsOk_none (fun _ => rfl) _)
theorem sum26_ok : SumOk Try.prog 26 sum26 := sum_of_run env26_ok (by decide) fun x y h => (run26 (x.1) (x.2.1)).trans h

/-! ### quillwort/tree.Read -/
noncomputable def b13 : Code := (Try.f13.body).getD .skip
noncomputable def c13_8 : Code := cA (cA (cA (cB (cB (cB (cB (cB (cA (cA (cA (cA (cB (cB (cA (cB (b13))))))))))))))))
noncomputable def c13_2 : Code := cA (cA (cA (cB (cB (cA (cB (b13)))))))
def k13_8 : Keep := ⟨[0, 2, 3, 5, 9, 100008], [], [0, 2, 3, 5, 9], [], [2, 3, 4], [(2, (.pair (.int .i64) (.pair (.int .i64) (.pair (.int .i64) (.pair (.int .i64) .unit)))))]⟩
def k13_2 : Keep := ⟨[0, 2, 3, 5, 100002], [(2, (.pair (.int .i64) (.pair (.int .i64) (.pair (.int .i64) (.pair (.int .i64) .unit)))))], [2], [], [2, 3, 4], [(2, (.pair (.int .i64) (.pair (.int .i64) (.pair (.int .i64) (.pair (.int .i64) .unit)))))]⟩
def p13_8 : SP := ⟨us [.v .str, .u, .slc 1800002, .v (.int .i64), .u, .v (.int .i64), .u, .u, .u, .v (.int .i64)] 103, [.arr 1800002 (.pair (.int .i64) (.pair (.int .i64) (.pair (.int .i64) (.pair (.int .i64) .unit))))]⟩
def pa13_8 : SP := ⟨us [.v .str, .u, .slc 1800002, .v (.int .i64), .u, .v (.int .i64), .u, .u, .u, .v (.int .i64)] 103, [.arr 1800002 (.pair (.int .i64) (.pair (.int .i64) (.pair (.int .i64) (.pair (.int .i64) .unit))))]⟩
def pb13_8 : SP := ⟨us [.u, .u, .v (.list (.pair (.int .i64) (.pair (.int .i64) (.pair (.int .i64) (.pair (.int .i64) .unit))))), .v (.int .i64), .v (.int .i64)] 108, []⟩
def st13_8 {γ : Type} (rec : (List UInt8) → Int → Int → Int → (List (Int × Int × Int × Int × Unit)) → Option γ) (kE : (List UInt8) → Int → Int → Int → (List (Int × Int × Int × Int × Unit)) → Option γ) (kR : (List (Int × Int × Int × Int × Unit)) → Int → Int → Option γ) (v0 : List UInt8) (v1 : Int) (v2 : Int) (v3 : Int) (v4 : List (Int × Int × Int × Int × Unit)) : Option γ :=
  bif (leI 0 v2) then
    bif (ltI v1 (lenI v0)) then
      bif (inI v0 v1) then
        bif (eqI (byteAt v0 v1) 41) then
          bif (inI v4 v2) then
            bif (ltL (natI v2) v4) then
              rec v0 (addK .i64 v1 1) (nthN v4 (0, (0, (0, (0, ())))) (natI v2)).2.2.2.1 v2 v4
            else
            none
          else
          none
        else
        kE v0 v1 v2 v3 v4
      else
      none
    else
    kE v0 v1 v2 v3 v4
  else
  kE v0 v1 v2 v3 v4
def lp13_8 : Nat → (List UInt8) → Int → Int → Int → (List (Int × Int × Int × Int × Unit)) → Option (pa13_8.den ⊕ pb13_8.den)
  | 0, _, _, _, _, _ => none
  | n + 1, v0, v1, v2, v3, v4 => st13_8 (lp13_8 n) (fun e0 e1 e2 e3 e4 => some (.inl ((e0, e1, e2, e3, ()), (e4, ())))) (fun r0 r1 r2 => some (.inr ((r0, r1, r2, ()), ()))) v0 v1 v2 v3 v4
def ls13_8 : LoopSum := loopBy k13_8 p13_8 pa13_8 pb13_8 (.exit 2) fun v => lp13_8 fuelN v.1.1 v.1.2.1 v.1.2.2.1 v.1.2.2.2.1 v.2.1
def p13_2 : SP := ⟨us [.v .str, .u, .slc 1800002, .v (.int .i64), .u, .v (.int .i64)] 107, [.arr 1800002 (.pair (.int .i64) (.pair (.int .i64) (.pair (.int .i64) (.pair (.int .i64) .unit))))]⟩
def pa13_2 : SP := ⟨us [.u, .u, .slc 1800002] 110, [.arr 1800002 (.pair (.int .i64) (.pair (.int .i64) (.pair (.int .i64) (.pair (.int .i64) .unit))))]⟩
def pb13_2 : SP := ⟨us [.u, .u, .v (.list (.pair (.int .i64) (.pair (.int .i64) (.pair (.int .i64) (.pair (.int .i64) .unit))))), .v (.int .i64), .v (.int .i64)] 108, []⟩
def st13_2 {γ : Type} (rec : (List UInt8) → Int → Int → (List (Int × Int × Int × Int × Unit)) → Option γ) (kE : (List (Int × Int × Int × Int × Unit)) → Option γ) (kR : (List (Int × Int × Int × Int × Unit)) → Int → Int → Option γ) (v0 : List UInt8) (v1 : Int) (v2 : Int) (v3 : List (Int × Int × Int × Int × Unit)) : Option γ :=
  obind (fn26 v0 v1) fun y0 =>
    bif (!y0.2.2.1) then
      kR [] y0.2.1 4
    else
    bif (fitI (catL v3 [(y0.1.1, (y0.1.2.1, (y0.1.2.2.1, (v2, ()))))]) 32) then
      obind (lp13_8 fuelN v0 y0.2.1 v2 (subK .i64 (lenI (catL v3 [(y0.1.1, (y0.1.2.1, (y0.1.2.2.1, (v2, ()))))])) 1) (catL v3 [(y0.1.1, (y0.1.2.1, (y0.1.2.2.1, (v2, ()))))])) fun y1 =>
        osum y1 (fun a2 =>
          bif (eqI a2.1.2.1 (lenI a2.1.1)) then
            bif (ltI a2.1.2.2.1 0) then
              kE a2.2.1
            else
            bif (ltI a2.1.2.1 (lenI a2.1.1)) then
              bif (inI a2.1.1 a2.1.2.1) then
                bif (eqI (byteAt a2.1.1 a2.1.2.1) 40) then
                  bif (eqI a2.1.2.2.2.1 (subK .i64 (lenI a2.2.1) 1)) then
                    bif (inI a2.1.1 (subK .i64 a2.1.2.1 1)) then
                      bif (!(eqI (byteAt a2.1.1 (subK .i64 a2.1.2.1 1)) 41)) then
                        rec a2.1.1 (addK .i64 a2.1.2.1 1) a2.1.2.2.2.1 a2.2.1
                      else
                      bif (ltI a2.1.2.1 (lenI a2.1.1)) then
                        bif (inI a2.1.1 a2.1.2.1) then
                          bif (eqI (byteAt a2.1.1 a2.1.2.1) 32) then
                            bif (leI 0 a2.1.2.2.1) then
                              rec a2.1.1 (addK .i64 a2.1.2.1 1) a2.1.2.2.1 a2.2.1
                            else
                            kR [] a2.1.2.1 4
                          else
                          kR [] a2.1.2.1 4
                        else
                        none
                      else
                      kR [] a2.1.2.1 4
                    else
                    none
                  else
                  bif (ltI a2.1.2.1 (lenI a2.1.1)) then
                    bif (inI a2.1.1 a2.1.2.1) then
                      bif (eqI (byteAt a2.1.1 a2.1.2.1) 32) then
                        bif (leI 0 a2.1.2.2.1) then
                          rec a2.1.1 (addK .i64 a2.1.2.1 1) a2.1.2.2.1 a2.2.1
                        else
                        kR [] a2.1.2.1 4
                      else
                      kR [] a2.1.2.1 4
                    else
                    none
                  else
                  kR [] a2.1.2.1 4
                else
                bif (ltI a2.1.2.1 (lenI a2.1.1)) then
                  bif (inI a2.1.1 a2.1.2.1) then
                    bif (eqI (byteAt a2.1.1 a2.1.2.1) 32) then
                      bif (leI 0 a2.1.2.2.1) then
                        rec a2.1.1 (addK .i64 a2.1.2.1 1) a2.1.2.2.1 a2.2.1
                      else
                      kR [] a2.1.2.1 4
                    else
                    kR [] a2.1.2.1 4
                  else
                  none
                else
                kR [] a2.1.2.1 4
              else
              none
            else
            bif (ltI a2.1.2.1 (lenI a2.1.1)) then
              bif (inI a2.1.1 a2.1.2.1) then
                bif (eqI (byteAt a2.1.1 a2.1.2.1) 32) then
                  bif (leI 0 a2.1.2.2.1) then
                    rec a2.1.1 (addK .i64 a2.1.2.1 1) a2.1.2.2.1 a2.2.1
                  else
                  kR [] a2.1.2.1 4
                else
                kR [] a2.1.2.1 4
              else
              none
            else
            kR [] a2.1.2.1 4
          else
          bif (ltI a2.1.2.1 (lenI a2.1.1)) then
            bif (inI a2.1.1 a2.1.2.1) then
              bif (eqI (byteAt a2.1.1 a2.1.2.1) 40) then
                bif (eqI a2.1.2.2.2.1 (subK .i64 (lenI a2.2.1) 1)) then
                  bif (inI a2.1.1 (subK .i64 a2.1.2.1 1)) then
                    bif (!(eqI (byteAt a2.1.1 (subK .i64 a2.1.2.1 1)) 41)) then
                      rec a2.1.1 (addK .i64 a2.1.2.1 1) a2.1.2.2.2.1 a2.2.1
                    else
                    bif (ltI a2.1.2.1 (lenI a2.1.1)) then
                      bif (inI a2.1.1 a2.1.2.1) then
                        bif (eqI (byteAt a2.1.1 a2.1.2.1) 32) then
                          bif (leI 0 a2.1.2.2.1) then
                            rec a2.1.1 (addK .i64 a2.1.2.1 1) a2.1.2.2.1 a2.2.1
                          else
                          kR [] a2.1.2.1 4
                        else
                        kR [] a2.1.2.1 4
                      else
                      none
                    else
                    kR [] a2.1.2.1 4
                  else
                  none
                else
                bif (ltI a2.1.2.1 (lenI a2.1.1)) then
                  bif (inI a2.1.1 a2.1.2.1) then
                    bif (eqI (byteAt a2.1.1 a2.1.2.1) 32) then
                      bif (leI 0 a2.1.2.2.1) then
                        rec a2.1.1 (addK .i64 a2.1.2.1 1) a2.1.2.2.1 a2.2.1
                      else
                      kR [] a2.1.2.1 4
                    else
                    kR [] a2.1.2.1 4
                  else
                  none
                else
                kR [] a2.1.2.1 4
              else
              bif (ltI a2.1.2.1 (lenI a2.1.1)) then
                bif (inI a2.1.1 a2.1.2.1) then
                  bif (eqI (byteAt a2.1.1 a2.1.2.1) 32) then
                    bif (leI 0 a2.1.2.2.1) then
                      rec a2.1.1 (addK .i64 a2.1.2.1 1) a2.1.2.2.1 a2.2.1
                    else
                    kR [] a2.1.2.1 4
                  else
                  kR [] a2.1.2.1 4
                else
                none
              else
              kR [] a2.1.2.1 4
            else
            none
          else
          bif (ltI a2.1.2.1 (lenI a2.1.1)) then
            bif (inI a2.1.1 a2.1.2.1) then
              bif (eqI (byteAt a2.1.1 a2.1.2.1) 32) then
                bif (leI 0 a2.1.2.2.1) then
                  rec a2.1.1 (addK .i64 a2.1.2.1 1) a2.1.2.2.1 a2.2.1
                else
                kR [] a2.1.2.1 4
              else
              kR [] a2.1.2.1 4
            else
            none
          else
          kR [] a2.1.2.1 4) (fun b2 =>
          kR b2.1.1 b2.1.2.1 b2.1.2.2.1)
    else
    none
def lp13_2 : Nat → (List UInt8) → Int → Int → (List (Int × Int × Int × Int × Unit)) → Option (pa13_2.den ⊕ pb13_2.den)
  | 0, _, _, _, _ => none
  | n + 1, v0, v1, v2, v3 => st13_2 (lp13_2 n) (fun e0 => some (.inl ((), (e0, ())))) (fun r0 r1 r2 => some (.inr ((r0, r1, r2, ()), ()))) v0 v1 v2 v3
def ls13_2 : LoopSum := loopBy k13_2 p13_2 pa13_2 pb13_2 (.exit 0) fun v => lp13_2 fuelN v.1.1 v.1.2.1 v.1.2.2.1 v.2.1
def fn13 (x0 : List UInt8) : Option ((List (Int × Int × Int × Int × Unit)) × Int × Int × Unit) :=
  obind (lp13_2 fuelN x0 0 (-1) []) fun y0 =>
    osum y0 (fun a1 =>
      bif (inI a1.2.1 0) then
        bif (ltL (natI 0) a1.2.1) then
          obind (fn11 a1.2.1 (nthN a1.2.1 (0, (0, (0, (0, ())))) (natI 0)).2.2.1) fun y2 =>
            bif (!y2.1) then
              some ([], (0, (14, ())))
            else
            some (a1.2.1, (0, (0, ())))
        else
        none
      else
      none) (fun b1 =>
      some (b1.1.1, (b1.1.2.1, (b1.1.2.2.1, ()))))
def sum13 : Sum := (⟨[.str], [(.list (.pair (.int .i64) (.pair (.int .i64) (.pair (.int .i64) (.pair (.int .i64) .unit)))), false), (.int .i64, false), (.int .i64, false)], fun x => fn13 x.1⟩ : Sum)
noncomputable def env13 : Env := envOf Try.prog tt 13 [(11, sum11), (26, sum26)] [(8, k13_8), (2, k13_2)] [(8, ls13_8), (2, ls13_2)]
theorem step13_8 {R : Type} (x : ExecFn R) (xd : Job → St → Option AVal) (n : Nat) (K : Ex → St → Option R) (v0 : List UInt8) (v1 : Int) (v2 : Int) (v3 : Int) (v4 : List (Int × Int × Int × Int × Unit)) :
    iter (some k13_8) (run env13 x xd 13 c13_8) (n + 1) (mkSt p13_8 ((v0, v1, v2, v3, ()), (v4, ()))) K =
      st13_8 (fun v0 v1 v2 v3 v4 => iter (some k13_8) (run env13 x xd 13 c13_8) n (mkSt p13_8 ((v0, v1, v2, v3, ()), (v4, ()))) K) (fun e0 e1 e2 e3 e4 => K (.exit 2) (mkSt pa13_8 ((e0, e1, e2, e3, ()), (e4, ())))) (fun r0 r1 r2 => K .ret (mkSt pb13_8 ((r0, r1, r2, ()), ()))) v0 v1 v2 v3 v4 := by kernel_rfl
theorem it13_8 {R : Type} (x : ExecFn R) (xd : Job → St → Option AVal) (K : Ex → St → Option R) : ∀ (n : Nat) (v0 : List UInt8) (v1 : Int) (v2 : Int) (v3 : Int) (v4 : List (Int × Int × Int × Int × Unit)),
    iter (some k13_8) (run env13 x xd 13 c13_8) n (mkSt p13_8 ((v0, v1, v2, v3, ()), (v4, ()))) K = obind (lp13_8 n v0 v1 v2 v3 v4) fun o => osum o (fun a => K (.exit 2) (mkSt pa13_8 a)) fun b => K .ret (mkSt pb13_8 b)
  | 0, _, _, _, _, _ => rfl
  | n + 1, v0, v1, v2, v3, v4 => by
    rw [step13_8]
    simp only [it13_8 x xd K n, lp13_8, st13_8, obind_cond, obind_none, obind_some, obind_obind, obind_osum]
    try simp only [osum]
theorem ok13_8 : LoopOk env13 13 c13_8 ls13_8 := loopBy_ok (by kernel_rfl) fun R x xd K v o h => ⟨fuelN, (it13_8 x xd K fuelN (v.1.1) (v.1.2.1) (v.1.2.2.1) (v.1.2.2.2.1) (v.2.1)).trans (congrArg (fun o => obind o _) h)⟩
theorem step13_2 {R : Type} (x : ExecFn R) (xd : Job → St → Option AVal) (n : Nat) (K : Ex → St → Option R) (v0 : List UInt8) (v1 : Int) (v2 : Int) (v3 : List (Int × Int × Int × Int × Unit)) :
    iter (some k13_2) (run env13 x xd 13 c13_2) (n + 1) (mkSt p13_2 ((v0, v1, v2, ()), (v3, ()))) K =
      st13_2 (fun v0 v1 v2 v3 => iter (some k13_2) (run env13 x xd 13 c13_2) n (mkSt p13_2 ((v0, v1, v2, ()), (v3, ()))) K) (fun e0 => K (.exit 0) (mkSt pa13_2 ((), (e0, ())))) (fun r0 r1 r2 => K .ret (mkSt pb13_2 ((r0, r1, r2, ()), ()))) v0 v1 v2 v3 := by kernel_rfl
theorem it13_2 {R : Type} (x : ExecFn R) (xd : Job → St → Option AVal) (K : Ex → St → Option R) : ∀ (n : Nat) (v0 : List UInt8) (v1 : Int) (v2 : Int) (v3 : List (Int × Int × Int × Int × Unit)),
    iter (some k13_2) (run env13 x xd 13 c13_2) n (mkSt p13_2 ((v0, v1, v2, ()), (v3, ()))) K = obind (lp13_2 n v0 v1 v2 v3) fun o => osum o (fun a => K (.exit 0) (mkSt pa13_2 a)) fun b => K .ret (mkSt pb13_2 b)
  | 0, _, _, _, _ => rfl
  | n + 1, v0, v1, v2, v3 => by
    rw [step13_2]
    simp only [it13_2 x xd K n, lp13_2, st13_2, obind_cond, obind_none, obind_some, obind_obind, obind_osum]
    try simp only [osum]
theorem ok13_2 : LoopOk env13 13 c13_2 ls13_2 := loopBy_ok (by kernel_rfl) fun R x xd K v o h => ⟨fuelN, (it13_2 x xd K fuelN (v.1.1) (v.1.2.1) (v.1.2.2.1) (v.2.1)).trans (congrArg (fun o => obind o _) h)⟩
theorem run13 (x0 : List UInt8) : runF env13 13 [.str] [(.list (.pair (.int .i64) (.pair (.int .i64) (.pair (.int .i64) (.pair (.int .i64) .unit)))), false), (.int .i64, false), (.int .i64, false)] (x0, ()) = fn13 x0 := by kernel_rfl
theorem lat13 : loopsAt b13 = [c13_8, c13_2] := by kernel_rfl
theorem lok13 : loopsOk env13 13 b13 := loopsOk_at b13 (by rw [lat13]; exact (List.forall_mem_cons.2 ⟨(fun L h => by rw [show env13.lp 13 (firstRegion c13_8) = some ls13_8 by kernel_rfl] at h; cases h; exact ok13_8), (List.forall_mem_cons.2 ⟨(fun L h => by rw [show env13.lp 13 (firstRegion c13_2) = some ls13_2 by kernel_rfl] at h; cases h; exact ok13_2), (fun _ h => absurd h List.not_mem_nil)⟩)⟩))
theorem env13_ok : EnvOk env13 := envOf_ok tok mixed noGor (sg := [(11, sum11), (26, sum26)]) (List.forall_mem_cons.2 ⟨(sum11_ok), (List.forall_mem_cons.2 ⟨(sum26_ok), (fun _ h => absurd h List.not_mem_nil)⟩)⟩) (fn := Try.f13) (c := b13) (by kernel_rfl) (by kernel_rfl) lok13
theorem sum13_ok : SumOk Try.prog 13 sum13 := sum_of_run env13_ok (by decide) fun x y h => (run13 (x.1)).trans h

/-! ### quillwort/quillwortref04.In -/
noncomputable def b27 : Code := (Try.f27.body).getD .skip
noncomputable def c27_2 : Code := cA (cA (cB (cA (cB (b27)))))
def k27_2 : Keep := ⟨[0, 1, 5, 100002], [], [], [], [4], []⟩
def p27_2 : SP := ⟨us [.v (.int .u8), .v .str, .u, .u, .u, .v (.int .i64)] 11, []⟩
def pa27_2 : SP := ⟨us [] 17, []⟩
def pb27_2 : SP := ⟨us [.u, .u, .u, .u, .v .bool] 12, []⟩
def st27_2 {γ : Type} (rec : Int → (List UInt8) → Int → Option γ) (kE : Option γ) (kR : Bool → Option γ) (v0 : Int) (v1 : List UInt8) (v2 : Int) : Option γ :=
  bif (ltI v2 (lenI v1)) then
    bif (inI v1 v2) then
      bif (eqI (byteAt v1 v2) v0) then
        kR true
      else
      rec v0 v1 (addK .i64 v2 1)
    else
    none
  else
  kE 
def lp27_2 : Nat → Int → (List UInt8) → Int → Option (pa27_2.den ⊕ pb27_2.den)
  | 0, _, _, _ => none
  | n + 1, v0, v1, v2 => st27_2 (lp27_2 n) (some (.inl ((), ()))) (fun r0 => some (.inr ((r0, ()), ()))) v0 v1 v2
def ls27_2 : LoopSum := loopBy k27_2 p27_2 pa27_2 pb27_2 (.exit 0) fun v => lp27_2 fuelN v.1.1 v.1.2.1 v.1.2.2.1
def fn27 (x0 : Int) (x1 : List UInt8) : Option (Bool × Unit) :=
  obind (lp27_2 fuelN x0 x1 0) fun y0 =>
    osum y0 (fun a1 =>
      some (false, ())) (fun b1 =>
      some (b1.1.1, ()))
def sum27 : Sum := (⟨[.int .u8, .str], [(.bool, false)], fun x => fn27 x.1 x.2.1⟩ : Sum)
noncomputable def env27 : Env := envOf Try.prog tt 27 [] [(2, k27_2)] [(2, ls27_2)]
theorem step27_2 {R : Type} (x : ExecFn R) (xd : Job → St → Option AVal) (n : Nat) (K : Ex → St → Option R) (v0 : Int) (v1 : List UInt8) (v2 : Int) :
    iter (some k27_2) (run env27 x xd 27 c27_2) (n + 1) (mkSt p27_2 ((v0, v1, v2, ()), ())) K =
      st27_2 (fun v0 v1 v2 => iter (some k27_2) (run env27 x xd 27 c27_2) n (mkSt p27_2 ((v0, v1, v2, ()), ())) K) (K (.exit 0) (mkSt pa27_2 ((), ()))) (fun r0 => K .ret (mkSt pb27_2 ((r0, ()), ()))) v0 v1 v2 := by kernel_rfl
theorem it27_2 {R : Type} (x : ExecFn R) (xd : Job → St → Option AVal) (K : Ex → St → Option R) : ∀ (n : Nat) (v0 : Int) (v1 : List UInt8) (v2 : Int),
    iter (some k27_2) (run env27 x xd 27 c27_2) n (mkSt p27_2 ((v0, v1, v2, ()), ())) K = obind (lp27_2 n v0 v1 v2) fun o => osum o (fun a => K (.exit 0) (mkSt pa27_2 a)) fun b => K .ret (mkSt pb27_2 b)
  | 0, _, _, _ => rfl
  | n + 1, v0, v1, v2 => by
    rw [step27_2]
    simp only [it27_2 x xd K n, lp27_2, st27_2, obind_cond, obind_none, obind_some, obind_obind, obind_osum]
    try simp only [osum]
theorem ok27_2 : LoopOk env27 27 c27_2 ls27_2 := loopBy_ok (by kernel_rfl) fun R x xd K v o h => ⟨fuelN, (it27_2 x xd K fuelN (v.1.1) (v.1.2.1) (v.1.2.2.1)).trans (congrArg (fun o => obind o _) h)⟩
theorem run27 (x0 : Int) (x1 : List UInt8) : runF env27 27 [.int .u8, .str] [(.bool, false)] (x0, x1, ()) = fn27 x0 x1 := by kernel_rfl
theorem lat27 : loopsAt b27 = [c27_2] := by kernel_rfl
theorem lok27 : loopsOk env27 27 b27 := loopsOk_at b27 (by rw [lat27]; exact (List.forall_mem_cons.2 ⟨(fun L h => by rw [show env27.lp 27 (firstRegion c27_2) = some ls27_2 by kernel_rfl] at h; cases h; exact ok27_2), (fun _ h => absurd h List.not_mem_nil)⟩))
theorem env27_ok : EnvOk env27 := envOf_ok tok mixed noGor (sg := []) (fun _ h => absurd h List.not_mem_nil) (fn := Try.f27) (c := b27) (by kernel_rfl) (by kernel_rfl) lok27
theorem sum27_ok : SumOk Try.prog 27 sum27 := sum_of_run env27_ok (by decide) fun x y h => (run27 (x.1) (x.2.1)).trans h

/-! ### quillwort/quillwortref04.Class -/
def fn35 (x0 : Int) : Option (Int × Unit) :=
  bif (eqI x0 32) then
    some (1, ())
  else
  bif (eqI x0 9) then
    some (1, ())
  else
  bif (eqI x0 10) then
    some (2, ())
  else
  obind (fn27 x0 [124, 38, 59, 60, 62, 40, 41]) fun y0 =>
    bif y0.1 then
      some (3, ())
    else
    obind (fn27 x0 [92, 39, 34, 96, 36]) fun y1 =>
      bif y1.1 then
        some (4, ())
      else
      obind (fn27 x0 [65, 66, 67, 68, 69, 70, 71, 72, 73, 74, 75, 76, 77, 78, 79, 80, 81, 82, 83, 84, 85, 86, 87, 88, 89, 90, 97, 98, 99, 100, 101, 102, 103, 104, 105, 106, 107, 108, 109, 110, 111, 112, 113, 114, 115, 116, 117, 118, 119, 120, 121, 122, 95]) fun y2 =>
        bif y2.1 then
          some (5, ())
        else
        obind (fn27 x0 [48, 49, 50, 51, 52, 53, 54, 55, 56, 57]) fun y3 =>
          bif y3.1 then
            some (6, ())
          else
          some (0, ())
def sum35 : Sum := (⟨[.int .u8], [(.int .i64, false)], fun x => fn35 x.1⟩ : Sum)
noncomputable def env35 : Env := envOf Try.prog tt 35 [(27, sum27)] [] []
theorem run35 (x0 : Int) : runF env35 35 [.int .u8] [(.int .i64, false)] (x0, ()) = fn35 x0 := by kernel_rfl
theorem env35_ok : EnvOk env35 := envOf_ok tok mixed noGor (sg := [(27, sum27)]) (List.forall_mem_cons.2 ⟨(sum27_ok), (fun _ h => absurd h List.not_mem_nil)⟩) (fn := Try.f35) (c := (Try.f35.body).getD .skip) (by kernel_rfl) (by kernel_rfl) (loopsOk_none (fun _ => rfl) _)
theorem sum35_ok : SumOk Try.prog 35 sum35 := sum_of_run env35_ok (by decide) fun x y h => (run35 (x.1)).trans h

/-! ### quillwort/quillwortref11.number -/
noncomputable def b28 : Code := (Try.f28.body).getD .skip
noncomputable def c28_3 : Code := cA (cA (cA (cB (cB (cB (b28))))))
def k28_3 : Keep := ⟨[0, 1, 6, 7, 100003], [], [6, 7], [], [4, 5], []⟩
def p28_3 : SP := ⟨us [.v .str, .v (.int .i64), .u, .u, .u, .u, .v (.int .i64), .v (.int .i64)] 41, []⟩
def pa28_3 : SP := ⟨us [.u, .u, .u, .u, .u, .u, .v (.int .i64), .v (.int .i64)] 41, []⟩
def pb28_3 : SP := ⟨us [.u, .u, .u, .u, .v (.int .i64), .v (.int .i64)] 43, []⟩
def st28_3 {γ : Type} (rec : (List UInt8) → Int → Int → Int → Option γ) (kE : Int → Int → Option γ) (kR : Int → Int → Option γ) (v0 : List UInt8) (v1 : Int) (v2 : Int) (v3 : Int) : Option γ :=
  bif (ltI v3 (lenI v0)) then
    bif (ltI v3 (addK .i64 v1 7)) then
      bif (inI v0 v3) then
        obind (fn35 (byteAt v0 v3)) fun y0 =>
          bif (eqI y0.1 6) then
            bif (eqI v3 v1) then
              bif (inI v0 v3) then
                rec v0 v1 (subK .i64 (addK .i64 (mulK .i64 v2 10) (wrapK .i64 (byteAt v0 v3))) 48) (addK .i64 v3 1)
              else
              none
            else
            bif (inI v0 v1) then
              bif (!(eqI (byteAt v0 v1) 48)) then
                bif (inI v0 v3) then
                  rec v0 v1 (subK .i64 (addK .i64 (mulK .i64 v2 10) (wrapK .i64 (byteAt v0 v3))) 48) (addK .i64 v3 1)
                else
                none
              else
              kE v2 v3
            else
            none
          else
          kE v2 v3
      else
      none
    else
    kE v2 v3
  else
  kE v2 v3
def lp28_3 : Nat → (List UInt8) → Int → Int → Int → Option (pa28_3.den ⊕ pb28_3.den)
  | 0, _, _, _, _ => none
  | n + 1, v0, v1, v2, v3 => st28_3 (lp28_3 n) (fun e0 e1 => some (.inl ((e0, e1, ()), ()))) (fun r0 r1 => some (.inr ((r0, r1, ()), ()))) v0 v1 v2 v3
def ls28_3 : LoopSum := loopBy k28_3 p28_3 pa28_3 pb28_3 (.exit 0) fun v => lp28_3 fuelN v.1.1 v.1.2.1 v.1.2.2.1 v.1.2.2.2.1
def fn28 (x0 : List UInt8) (x1 : Int) : Option (Int × Int × Unit) :=
  obind (lp28_3 fuelN x0 x1 0 x1) fun y0 =>
    osum y0 (fun a1 =>
      some (a1.1.1, (a1.1.2.1, ()))) (fun b1 =>
      some (b1.1.1, (b1.1.2.1, ())))
def sum28 : Sum := (⟨[.str, .int .i64], [(.int .i64, false), (.int .i64, false)], fun x => fn28 x.1 x.2.1⟩ : Sum)
noncomputable def env28 : Env := envOf Try.prog tt 28 [(35, sum35)] [(3, k28_3)] [(3, ls28_3)]
theorem step28_3 {R : Type} (x : ExecFn R) (xd : Job → St → Option AVal) (n : Nat) (K : Ex → St → Option R) (v0 : List UInt8) (v1 : Int) (v2 : Int) (v3 : Int) :
    iter (some k28_3) (run env28 x xd 28 c28_3) (n + 1) (mkSt p28_3 ((v0, v1, v2, v3, ()), ())) K =
      st28_3 (fun v0 v1 v2 v3 => iter (some k28_3) (run env28 x xd 28 c28_3) n (mkSt p28_3 ((v0, v1, v2, v3, ()), ())) K) (fun e0 e1 => K (.exit 0) (mkSt pa28_3 ((e0, e1, ()), ()))) (fun r0 r1 => K .ret (mkSt pb28_3 ((r0, r1, ()), ()))) v0 v1 v2 v3 := by kernel_rfl
theorem it28_3 {R : Type} (x : ExecFn R) (xd : Job → St → Option AVal) (K : Ex → St → Option R) : ∀ (n : Nat) (v0 : List UInt8) (v1 : Int) (v2 : Int) (v3 : Int),
    iter (some k28_3) (run env28 x xd 28 c28_3) n (mkSt p28_3 ((v0, v1, v2, v3, ()), ())) K = obind (lp28_3 n v0 v1 v2 v3) fun o => osum o (fun a => K (.exit 0) (mkSt pa28_3 a)) fun b => K .ret (mkSt pb28_3 b)
  | 0, _, _, _, _ => rfl
  | n + 1, v0, v1, v2, v3 => by
    rw [step28_3]
    simp only [it28_3 x xd K n, lp28_3, st28_3, obind_cond, obind_none, obind_some, obind_obind, obind_osum]
    try simp only [osum]
theorem ok28_3 : LoopOk env28 28 c28_3 ls28_3 := loopBy_ok (by kernel_rfl) fun R x xd K v o h => ⟨fuelN, (it28_3 x xd K fuelN (v.1.1) (v.1.2.1) (v.1.2.2.1) (v.1.2.2.2.1)).trans (congrArg (fun o => obind o _) h)⟩
theorem run28 (x0 : List UInt8) (x1 : Int) : runF env28 28 [.str, .int .i64] [(.int .i64, false), (.int .i64, false)] (x0, x1, ()) = fn28 x0 x1 := by kernel_rfl
theorem lat28 : loopsAt b28 = [c28_3] := by kernel_rfl
theorem lok28 : loopsOk env28 28 b28 := loopsOk_at b28 (by rw [lat28]; exact (List.forall_mem_cons.2 ⟨(fun L h => by rw [show env28.lp 28 (firstRegion c28_3) = some ls28_3 by kernel_rfl] at h; cases h; exact ok28_3), (fun _ h => absurd h List.not_mem_nil)⟩))
theorem env28_ok : EnvOk env28 := envOf_ok tok mixed noGor (sg := [(35, sum35)]) (List.forall_mem_cons.2 ⟨(sum35_ok), (fun _ h => absurd h List.not_mem_nil)⟩) (fn := Try.f28) (c := b28) (by kernel_rfl) (by kernel_rfl) lok28
theorem sum28_ok : SumOk Try.prog 28 sum28 := sum_of_run env28_ok (by decide) fun x y h => (run28 (x.1) (x.2.1)).trans h

/-! ### quillwort/quillwortref11.Form -/
noncomputable def b14 : Code := (Try.f14.body).getD .skip
noncomputable def c14_7 : Code := cA (cA (cA (cB (cB (cA (cA (cA (cB (cB (cB (cB (b14))))))))))))
noncomputable def c14_20 : Code := cA (cA (cA (cB (cB (cB (cB (cB (cB (cB (cB (cB (cB (cA (cA (cA (cB (cB (cB (cB (b14))))))))))))))))))))
noncomputable def c14_4 : Code := cA (cA (cB (cB (cB (cB (b14))))))
def k14_7 : Keep := ⟨[0, 4, 5, 6, 7, 100007], [], [0, 4, 5, 6, 7], [], [2, 3], [(2, (.pair (.int .i64) (.pair (.int .i64) (.pair (.int .i64) (.pair (.int .i64) .unit)))))]⟩
def k14_20 : Keep := ⟨[0, 4, 5, 6, 100020], [], [0, 4, 5, 6], [], [2, 3], [(2, (.pair (.int .i64) (.pair (.int .i64) (.pair (.int .i64) (.pair (.int .i64) .unit)))))]⟩
def k14_4 : Keep := ⟨[0, 4, 5, 6, 100004], [(4, (.pair (.int .i64) (.pair (.int .i64) (.pair (.int .i64) (.pair (.int .i64) .unit)))))], [], [], [2, 3], [(2, (.pair (.int .i64) (.pair (.int .i64) (.pair (.int .i64) (.pair (.int .i64) .unit)))))]⟩
def p14_7 : SP := ⟨us [.v .str, .u, .u, .u, .slc 1800004, .v (.int .i64), .v (.int .i64), .v (.int .i64)] 137, [.arr 1800004 (.pair (.int .i64) (.pair (.int .i64) (.pair (.int .i64) (.pair (.int .i64) .unit))))]⟩
def pa14_7 : SP := ⟨us [.v .str, .u, .u, .u, .slc 1800004, .v (.int .i64), .v (.int .i64), .v (.int .i64)] 137, [.arr 1800004 (.pair (.int .i64) (.pair (.int .i64) (.pair (.int .i64) (.pair (.int .i64) .unit))))]⟩
def pb14_7 : SP := ⟨us [.u, .u, .v (.list (.pair (.int .i64) (.pair (.int .i64) (.pair (.int .i64) (.pair (.int .i64) .unit))))), .v (.int .i64)] 141, []⟩
def st14_7 {γ : Type} (rec : (List UInt8) → Int → Int → Int → (List (Int × Int × Int × Int × Unit)) → Option γ) (kE : (List UInt8) → Int → Int → Int → (List (Int × Int × Int × Int × Unit)) → Option γ) (kR : (List (Int × Int × Int × Int × Unit)) → Int → Option γ) (v0 : List UInt8) (v1 : Int) (v2 : Int) (v3 : Int) (v4 : List (Int × Int × Int × Int × Unit)) : Option γ :=
  bif (inI [63, 80, 76, 65, 73, 83, 88, 87, 82, 66, 85, 70, 72, 79, 67, 84, 78, 69, 77] v3) then
    bif (inI v0 v2) then
      bif (!(eqI (byteAt [63, 80, 76, 65, 73, 83, 88, 87, 82, 66, 85, 70, 72, 79, 67, 84, 78, 69, 77] v3) (byteAt v0 v2))) then
        rec v0 v1 v2 (addK .i64 v3 1) v4
      else
      kE v0 v1 v2 v3 v4
    else
    none
  else
  none
def lp14_7 : Nat → (List UInt8) → Int → Int → Int → (List (Int × Int × Int × Int × Unit)) → Option (pa14_7.den ⊕ pb14_7.den)
  | 0, _, _, _, _, _ => none
  | n + 1, v0, v1, v2, v3, v4 => st14_7 (lp14_7 n) (fun e0 e1 e2 e3 e4 => some (.inl ((e0, e1, e2, e3, ()), (e4, ())))) (fun r0 r1 => some (.inr ((r0, r1, ()), ()))) v0 v1 v2 v3 v4
def ls14_7 : LoopSum := loopBy k14_7 p14_7 pa14_7 pb14_7 (.exit 2) fun v => lp14_7 fuelN v.1.1 v.1.2.1 v.1.2.2.1 v.1.2.2.2.1 v.2.1
def p14_20 : SP := ⟨us [.v .str, .u, .u, .u, .slc 1800004, .v (.int .i64), .v (.int .i64)] 138, [.arr 1800004 (.pair (.int .i64) (.pair (.int .i64) (.pair (.int .i64) (.pair (.int .i64) .unit))))]⟩
def pa14_20 : SP := ⟨us [.v .str, .u, .u, .u, .slc 1800004, .v (.int .i64), .v (.int .i64)] 138, [.arr 1800004 (.pair (.int .i64) (.pair (.int .i64) (.pair (.int .i64) (.pair (.int .i64) .unit))))]⟩
def pb14_20 : SP := ⟨us [.u, .u, .v (.list (.pair (.int .i64) (.pair (.int .i64) (.pair (.int .i64) (.pair (.int .i64) .unit))))), .v (.int .i64)] 141, []⟩
def st14_20 {γ : Type} (rec : (List UInt8) → Int → Int → (List (Int × Int × Int × Int × Unit)) → Option γ) (kE : (List UInt8) → Int → Int → (List (Int × Int × Int × Int × Unit)) → Option γ) (kR : (List (Int × Int × Int × Int × Unit)) → Int → Option γ) (v0 : List UInt8) (v1 : Int) (v2 : Int) (v3 : List (Int × Int × Int × Int × Unit)) : Option γ :=
  bif (ltI v2 (lenI v0)) then
    bif (inI v0 v2) then
      bif (eqI (byteAt v0 v2) 41) then
        bif (leI 0 v1) then
          bif (inI v3 v1) then
            bif (ltL (natI v1) v3) then
              rec v0 (nthN v3 (0, (0, (0, (0, ())))) (natI v1)).2.2.2.1 (addK .i64 v2 1) v3
            else
            none
          else
          none
        else
        kE v0 v1 v2 v3
      else
      kE v0 v1 v2 v3
    else
    none
  else
  kE v0 v1 v2 v3
def lp14_20 : Nat → (List UInt8) → Int → Int → (List (Int × Int × Int × Int × Unit)) → Option (pa14_20.den ⊕ pb14_20.den)
  | 0, _, _, _, _ => none
  | n + 1, v0, v1, v2, v3 => st14_20 (lp14_20 n) (fun e0 e1 e2 e3 => some (.inl ((e0, e1, e2, ()), (e3, ())))) (fun r0 r1 => some (.inr ((r0, r1, ()), ()))) v0 v1 v2 v3
def ls14_20 : LoopSum := loopBy k14_20 p14_20 pa14_20 pb14_20 (.exit 4) fun v => lp14_20 fuelN v.1.1 v.1.2.1 v.1.2.2.1 v.2.1
def p14_4 : SP := ⟨us [.v .str, .u, .u, .u, .slc 1800004, .v (.int .i64), .v (.int .i64)] 138, [.arr 1800004 (.pair (.int .i64) (.pair (.int .i64) (.pair (.int .i64) (.pair (.int .i64) .unit))))]⟩
def pa14_4 : SP := ⟨[], []⟩
def pb14_4 : SP := ⟨us [.u, .u, .v (.list (.pair (.int .i64) (.pair (.int .i64) (.pair (.int .i64) (.pair (.int .i64) .unit))))), .v (.int .i64)] 141, []⟩
def st14_4 {γ : Type} (rec : (List UInt8) → Int → Int → (List (Int × Int × Int × Int × Unit)) → Option γ) (kE : Option γ) (kR : (List (Int × Int × Int × Int × Unit)) → Int → Option γ) (v0 : List UInt8) (v1 : Int) (v2 : Int) (v3 : List (Int × Int × Int × Int × Unit)) : Option γ :=
  bif (leI (lenI v0) v2) then
    kR [] v2
  else
  bif (inI v0 v2) then
    bif (eqI (byteAt v0 v2) 63) then
      kR [] v2
    else
    bif (inI v0 v2) then
      obind (fn27 (byteAt v0 v2) [63, 80, 76, 65, 73, 83, 88, 87, 82, 66, 85, 70, 72, 79, 67, 84, 78, 69, 77]) fun y0 =>
        bif (!y0.1) then
          kR [] v2
        else
        obind (lp14_7 fuelN v0 v1 v2 0 v3) fun y1 =>
          osum y1 (fun a2 =>
            obind (fn28 a2.1.1 (addK .i64 a2.1.2.2.1 1)) fun y3 =>
              bif (eqI y3.2.1 (addK .i64 a2.1.2.2.1 1)) then
                kR [] y3.2.1
              else
              bif (leI (lenI a2.1.1) y3.2.1) then
                kR [] y3.2.1
              else
              bif (inI a2.1.1 y3.2.1) then
                bif (!(eqI (byteAt a2.1.1 y3.2.1) 45)) then
                  kR [] y3.2.1
                else
                obind (fn28 a2.1.1 (addK .i64 y3.2.1 1)) fun y4 =>
                  bif (eqI y4.2.1 (addK .i64 y3.2.1 1)) then
                    kR [] y4.2.1
                  else
                  bif (fitI (catL a2.2.1 [(a2.1.2.2.2.1, (y3.1, (y4.1, (a2.1.2.1, ()))))]) 32) then
                    bif (ltI y4.2.1 (lenI a2.1.1)) then
                      bif (inI a2.1.1 y4.2.1) then
                        bif (eqI (byteAt a2.1.1 y4.2.1) 40) then
                          rec a2.1.1 (subK .i64 (lenI (catL a2.2.1 [(a2.1.2.2.2.1, (y3.1, (y4.1, (a2.1.2.1, ()))))])) 1) (addK .i64 y4.2.1 1) (catL a2.2.1 [(a2.1.2.2.2.1, (y3.1, (y4.1, (a2.1.2.1, ()))))])
                        else
                        obind (lp14_20 fuelN a2.1.1 a2.1.2.1 y4.2.1 (catL a2.2.1 [(a2.1.2.2.2.1, (y3.1, (y4.1, (a2.1.2.1, ()))))])) fun y5 =>
                          osum y5 (fun a6 =>
                            bif (eqI a6.1.2.2.1 (lenI a6.1.1)) then
                              bif (ltI a6.1.2.1 0) then
                                kR a6.2.1 (-1)
                              else
                              bif (eqI a6.1.2.2.1 (lenI a6.1.1)) then
                                kR [] a6.1.2.2.1
                              else
                              bif (inI a6.1.1 a6.1.2.2.1) then
                                bif (!(eqI (byteAt a6.1.1 a6.1.2.2.1) 32)) then
                                  kR [] a6.1.2.2.1
                                else
                                bif (ltI a6.1.2.1 0) then
                                  kR [] a6.1.2.2.1
                                else
                                rec a6.1.1 a6.1.2.1 (addK .i64 a6.1.2.2.1 1) a6.2.1
                              else
                              none
                            else
                            bif (eqI a6.1.2.2.1 (lenI a6.1.1)) then
                              kR [] a6.1.2.2.1
                            else
                            bif (inI a6.1.1 a6.1.2.2.1) then
                              bif (!(eqI (byteAt a6.1.1 a6.1.2.2.1) 32)) then
                                kR [] a6.1.2.2.1
                              else
                              bif (ltI a6.1.2.1 0) then
                                kR [] a6.1.2.2.1
                              else
                              rec a6.1.1 a6.1.2.1 (addK .i64 a6.1.2.2.1 1) a6.2.1
                            else
                            none) (fun b6 =>
                            kR b6.1.1 b6.1.2.1)
                      else
                      none
                    else
                    obind (lp14_20 fuelN a2.1.1 a2.1.2.1 y4.2.1 (catL a2.2.1 [(a2.1.2.2.2.1, (y3.1, (y4.1, (a2.1.2.1, ()))))])) fun y5 =>
                      osum y5 (fun a6 =>
                        bif (eqI a6.1.2.2.1 (lenI a6.1.1)) then
                          bif (ltI a6.1.2.1 0) then
                            kR a6.2.1 (-1)
                          else
                          bif (eqI a6.1.2.2.1 (lenI a6.1.1)) then
                            kR [] a6.1.2.2.1
                          else
                          bif (inI a6.1.1 a6.1.2.2.1) then
                            bif (!(eqI (byteAt a6.1.1 a6.1.2.2.1) 32)) then
                              kR [] a6.1.2.2.1
                            else
                            bif (ltI a6.1.2.1 0) then
                              kR [] a6.1.2.2.1
                            else
                            rec a6.1.1 a6.1.2.1 (addK .i64 a6.1.2.2.1 1) a6.2.1
                          else
                          none
                        else
                        bif (eqI a6.1.2.2.1 (lenI a6.1.1)) then
                          kR [] a6.1.2.2.1
                        else
                        bif (inI a6.1.1 a6.1.2.2.1) then
                          bif (!(eqI (byteAt a6.1.1 a6.1.2.2.1) 32)) then
                            kR [] a6.1.2.2.1
                          else
                          bif (ltI a6.1.2.1 0) then
                            kR [] a6.1.2.2.1
                          else
                          rec a6.1.1 a6.1.2.1 (addK .i64 a6.1.2.2.1 1) a6.2.1
                        else
                        none) (fun b6 =>
                        kR b6.1.1 b6.1.2.1)
                  else
                  none
              else
              none) (fun b2 =>
            kR b2.1.1 b2.1.2.1)
    else
    none
  else
  none
def lp14_4 : Nat → (List UInt8) → Int → Int → (List (Int × Int × Int × Int × Unit)) → Option (pa14_4.den ⊕ pb14_4.den)
  | 0, _, _, _, _ => none
  | n + 1, v0, v1, v2, v3 => st14_4 (lp14_4 n) (some (.inl ((), ()))) (fun r0 r1 => some (.inr ((r0, r1, ()), ()))) v0 v1 v2 v3
def ls14_4 : LoopSum := loopBy k14_4 p14_4 pa14_4 pb14_4 (.exit 0) fun v => lp14_4 fuelN v.1.1 v.1.2.1 v.1.2.2.1 v.2.1
def fn14 (x0 : List UInt8) : Option ((List (Int × Int × Int × Int × Unit)) × Int × Unit) :=
  obind (lp14_4 fuelN x0 (-1) 0 []) fun y0 =>
    osum y0 (fun a1 =>
      none) (fun b1 =>
      some (b1.1.1, (b1.1.2.1, ())))
def sum14 : Sum := (⟨[.str], [(.list (.pair (.int .i64) (.pair (.int .i64) (.pair (.int .i64) (.pair (.int .i64) .unit)))), false), (.int .i64, false)], fun x => fn14 x.1⟩ : Sum)
noncomputable def env14 : Env := envOf Try.prog tt 14 [(27, sum27), (28, sum28)] [(7, k14_7), (20, k14_20), (4, k14_4)] [(7, ls14_7), (20, ls14_20), (4, ls14_4)]
theorem step14_7 {R : Type} (x : ExecFn R) (xd : Job → St → Option AVal) (n : Nat) (K : Ex → St → Option R) (v0 : List UInt8) (v1 : Int) (v2 : Int) (v3 : Int) (v4 : List (Int × Int × Int × Int × Unit)) :
    iter (some k14_7) (run env14 x xd 14 c14_7) (n + 1) (mkSt p14_7 ((v0, v1, v2, v3, ()), (v4, ()))) K =
      st14_7 (fun v0 v1 v2 v3 v4 => iter (some k14_7) (run env14 x xd 14 c14_7) n (mkSt p14_7 ((v0, v1, v2, v3, ()), (v4, ()))) K) (fun e0 e1 e2 e3 e4 => K (.exit 2) (mkSt pa14_7 ((e0, e1, e2, e3, ()), (e4, ())))) (fun r0 r1 => K .ret (mkSt pb14_7 ((r0, r1, ()), ()))) v0 v1 v2 v3 v4 := by kernel_rfl
theorem it14_7 {R : Type} (x : ExecFn R) (xd : Job → St → Option AVal) (K : Ex → St → Option R) : ∀ (n : Nat) (v0 : List UInt8) (v1 : Int) (v2 : Int) (v3 : Int) (v4 : List (Int × Int × Int × Int × Unit)),
    iter (some k14_7) (run env14 x xd 14 c14_7) n (mkSt p14_7 ((v0, v1, v2, v3, ()), (v4, ()))) K = obind (lp14_7 n v0 v1 v2 v3 v4) fun o => osum o (fun a => K (.exit 2) (mkSt pa14_7 a)) fun b => K .ret (mkSt pb14_7 b)
  | 0, _, _, _, _, _ => rfl
  | n + 1, v0, v1, v2, v3, v4 => by
    rw [step14_7]
    simp only [it14_7 x xd K n, lp14_7, st14_7, obind_cond, obind_none, obind_some, obind_obind, obind_osum]
    try simp only [osum]
theorem ok14_7 : LoopOk env14 14 c14_7 ls14_7 := loopBy_ok (by kernel_rfl) fun R x xd K v o h => ⟨fuelN, (it14_7 x xd K fuelN (v.1.1) (v.1.2.1) (v.1.2.2.1) (v.1.2.2.2.1) (v.2.1)).trans (congrArg (fun o => obind o _) h)⟩
theorem step14_20 {R : Type} (x : ExecFn R) (xd : Job → St → Option AVal) (n : Nat) (K : Ex → St → Option R) (v0 : List UInt8) (v1 : Int) (v2 : Int) (v3 : List (Int × Int × Int × Int × Unit)) :
    iter (some k14_20) (run env14 x xd 14 c14_20) (n + 1) (mkSt p14_20 ((v0, v1, v2, ()), (v3, ()))) K =
      st14_20 (fun v0 v1 v2 v3 => iter (some k14_20) (run env14 x xd 14 c14_20) n (mkSt p14_20 ((v0, v1, v2, ()), (v3, ()))) K) (fun e0 e1 e2 e3 => K (.exit 4) (mkSt pa14_20 ((e0, e1, e2, ()), (e3, ())))) (fun r0 r1 => K .ret (mkSt pb14_20 ((r0, r1, ()), ()))) v0 v1 v2 v3 := by kernel_rfl
theorem it14_20 {R : Type} (x : ExecFn R) (xd : Job → St → Option AVal) (K : Ex → St → Option R) : ∀ (n : Nat) (v0 : List UInt8) (v1 : Int) (v2 : Int) (v3 : List (Int × Int × Int × Int × Unit)),
    iter (some k14_20) (run env14 x xd 14 c14_20) n (mkSt p14_20 ((v0, v1, v2, ()), (v3, ()))) K = obind (lp14_20 n v0 v1 v2 v3) fun o => osum o (fun a => K (.exit 4) (mkSt pa14_20 a)) fun b => K .ret (mkSt pb14_20 b)
  | 0, _, _, _, _ => rfl
  | n + 1, v0, v1, v2, v3 => by
    rw [step14_20]
    simp only [it14_20 x xd K n, lp14_20, st14_20, obind_cond, obind_none, obind_some, obind_obind, obind_osum]
    try simp only [osum]
theorem ok14_20 : LoopOk env14 14 c14_20 ls14_20 := loopBy_ok (by kernel_rfl) fun R x xd K v o h => ⟨fuelN, (it14_20 x xd K fuelN (v.1.1) (v.1.2.1) (v.1.2.2.1) (v.2.1)).trans (congrArg (fun o => obind o _) h)⟩
theorem step14_4 {R : Type} (x : ExecFn R) (xd : Job → St → Option AVal) (n : Nat) (K : Ex → St → Option R) (v0 : List UInt8) (v1 : Int) (v2 : Int) (v3 : List (Int × Int × Int × Int × Unit)) :
    iter (some k14_4) (run env14 x xd 14 c14_4) (n + 1) (mkSt p14_4 ((v0, v1, v2, ()), (v3, ()))) K =
      st14_4 (fun v0 v1 v2 v3 => iter (some k14_4) (run env14 x xd 14 c14_4) n (mkSt p14_4 ((v0, v1, v2, ()), (v3, ()))) K) (K (.exit 0) (mkSt pa14_4 ((), ()))) (fun r0 r1 => K .ret (mkSt pb14_4 ((r0, r1, ()), ()))) v0 v1 v2 v3 := by kernel_rfl
theorem it14_4 {R : Type} (x : ExecFn R) (xd : Job → St → Option AVal) (K : Ex → St → Option R) : ∀ (n : Nat) (v0 : List UInt8) (v1 : Int) (v2 : Int) (v3 : List (Int × Int × Int × Int × Unit)),
    iter (some k14_4) (run env14 x xd 14 c14_4) n (mkSt p14_4 ((v0, v1, v2, ()), (v3, ()))) K = obind (lp14_4 n v0 v1 v2 v3) fun o => osum o (fun a => K (.exit 0) (mkSt pa14_4 a)) fun b => K .ret (mkSt pb14_4 b)
  | 0, _, _, _, _ => rfl
  | n + 1, v0, v1, v2, v3 => by
    rw [step14_4]
    simp only [it14_4 x xd K n, lp14_4, st14_4, obind_cond, obind_none, obind_some, obind_obind, obind_osum]
    try simp only [osum]
theorem ok14_4 : LoopOk env14 14 c14_4 ls14_4 := loopBy_ok (by kernel_rfl) fun R x xd K v o h => ⟨fuelN, (it14_4 x xd K fuelN (v.1.1) (v.1.2.1) (v.1.2.2.1) (v.2.1)).trans (congrArg (fun o => obind o _) h)⟩
theorem run14 (x0 : List UInt8) : runF env14 14 [.str] [(.list (.pair (.int .i64) (.pair (.int .i64) (.pair (.int .i64) (.pair (.int .i64) .unit)))), false), (.int .i64, false)] (x0, ()) = fn14 x0 := by kernel_rfl
theorem lat14 : loopsAt b14 = [c14_7, c14_20, c14_4] := by kernel_rfl
theorem lok14 : loopsOk env14 14 b14 := loopsOk_at b14 (by rw [lat14]; exact (List.forall_mem_cons.2 ⟨(fun L h => by rw [show env14.lp 14 (firstRegion c14_7) = some ls14_7 by kernel_rfl] at h; cases h; exact ok14_7), (List.forall_mem_cons.2 ⟨(fun L h => by rw [show env14.lp 14 (firstRegion c14_20) = some ls14_20 by kernel_rfl] at h; cases h; exact ok14_20), (List.forall_mem_cons.2 ⟨(fun L h => by rw [show env14.lp 14 (firstRegion c14_4) = some ls14_4 by kernel_rfl] at h; cases h; exact ok14_4), (fun _ h => absurd h List.not_mem_nil)⟩)⟩)⟩))
theorem env14_ok : EnvOk env14 := envOf_ok tok mixed noGor (sg := [(27, sum27), (28, sum28)]) (List.forall_mem_cons.2 ⟨(sum27_ok), (List.forall_mem_cons.2 ⟨(sum28_ok), (fun _ h => absurd h List.not_mem_nil)⟩)⟩) (fn := Try.f14) (c := b14) (by kernel_rfl) (by kernel_rfl) lok14
theorem sum14_ok : SumOk Try.prog 14 sum14 := sum_of_run env14_ok (by decide) fun x y h => (run14 (x.1)).trans h

/-! ### quillwort/quillwortlaw11.SameTree -/
noncomputable def b15 : Code := (Try.f15.body).getD .skip
noncomputable def c15_4 : Code := cA (cA (cB (cA (cB (cB (b15))))))
def k15_4 : Keep := ⟨[0, 1, 5, 100004], [], [], [], [4], []⟩
def p15_4 : SP := ⟨us [.v (.list (.pair (.int .i64) (.pair (.int .i64) (.pair (.int .i64) (.pair (.int .i64) .unit))))), .v (.list (.pair (.int .i64) (.pair (.int .i64) (.pair (.int .i64) (.pair (.int .i64) .unit))))), .u, .u, .u, .v (.int .i64)] 20, []⟩
def pa15_4 : SP := ⟨us [] 26, []⟩
def pb15_4 : SP := ⟨us [.u, .u, .u, .u, .v .bool] 21, []⟩
def st15_4 {γ : Type} (rec : (List (Int × Int × Int × Int × Unit)) → (List (Int × Int × Int × Int × Unit)) → Int → Option γ) (kE : Option γ) (kR : Bool → Option γ) (v0 : List (Int × Int × Int × Int × Unit)) (v1 : List (Int × Int × Int × Int × Unit)) (v2 : Int) : Option γ :=
  bif (ltI v2 (lenI v0)) then
    bif (inI v0 v2) then
      bif (inI v1 v2) then
        bif (!((eqI (getI v0 (0, (0, (0, (0, ())))) v2).1 (getI v1 (0, (0, (0, (0, ())))) v2).1) && ((eqI (getI v0 (0, (0, (0, (0, ())))) v2).2.1 (getI v1 (0, (0, (0, (0, ())))) v2).2.1) && ((eqI (getI v0 (0, (0, (0, (0, ())))) v2).2.2.1 (getI v1 (0, (0, (0, (0, ())))) v2).2.2.1) && ((eqI (getI v0 (0, (0, (0, (0, ())))) v2).2.2.2.1 (getI v1 (0, (0, (0, (0, ())))) v2).2.2.2.1) && true))))) then
          kR false
        else
        rec v0 v1 (addK .i64 v2 1)
      else
      none
    else
    none
  else
  kE 
def lp15_4 : Nat → (List (Int × Int × Int × Int × Unit)) → (List (Int × Int × Int × Int × Unit)) → Int → Option (pa15_4.den ⊕ pb15_4.den)
  | 0, _, _, _ => none
  | n + 1, v0, v1, v2 => st15_4 (lp15_4 n) (some (.inl ((), ()))) (fun r0 => some (.inr ((r0, ()), ()))) v0 v1 v2
def ls15_4 : LoopSum := loopBy k15_4 p15_4 pa15_4 pb15_4 (.exit 0) fun v => lp15_4 fuelN v.1.1 v.1.2.1 v.1.2.2.1
def fn15 (x0 : List (Int × Int × Int × Int × Unit)) (x1 : List (Int × Int × Int × Int × Unit)) : Option (Bool × Unit) :=
  bif (!(eqI (lenI x0) (lenI x1))) then
    some (false, ())
  else
  obind (lp15_4 fuelN x0 x1 0) fun y0 =>
    osum y0 (fun a1 =>
      some (true, ())) (fun b1 =>
      some (b1.1.1, ()))
def sum15 : Sum := (⟨[.list (.pair (.int .i64) (.pair (.int .i64) (.pair (.int .i64) (.pair (.int .i64) .unit)))), .list (.pair (.int .i64) (.pair (.int .i64) (.pair (.int .i64) (.pair (.int .i64) .unit))))], [(.bool, false)], fun x => fn15 x.1 x.2.1⟩ : Sum)
noncomputable def env15 : Env := envOf Try.prog tt 15 [] [(4, k15_4)] [(4, ls15_4)]
theorem step15_4 {R : Type} (x : ExecFn R) (xd : Job → St → Option AVal) (n : Nat) (K : Ex → St → Option R) (v0 : List (Int × Int × Int × Int × Unit)) (v1 : List (Int × Int × Int × Int × Unit)) (v2 : Int) :
    iter (some k15_4) (run env15 x xd 15 c15_4) (n + 1) (mkSt p15_4 ((v0, v1, v2, ()), ())) K =
      st15_4 (fun v0 v1 v2 => iter (some k15_4) (run env15 x xd 15 c15_4) n (mkSt p15_4 ((v0, v1, v2, ()), ())) K) (K (.exit 0) (mkSt pa15_4 ((), ()))) (fun r0 => K .ret (mkSt pb15_4 ((r0, ()), ()))) v0 v1 v2 := by kernel_rfl
theorem it15_4 {R : Type} (x : ExecFn R) (xd : Job → St → Option AVal) (K : Ex → St → Option R) : ∀ (n : Nat) (v0 : List (Int × Int × Int × Int × Unit)) (v1 : List (Int × Int × Int × Int × Unit)) (v2 : Int),
    iter (some k15_4) (run env15 x xd 15 c15_4) n (mkSt p15_4 ((v0, v1, v2, ()), ())) K = obind (lp15_4 n v0 v1 v2) fun o => osum o (fun a => K (.exit 0) (mkSt pa15_4 a)) fun b => K .ret (mkSt pb15_4 b)
  | 0, _, _, _ => rfl
  | n + 1, v0, v1, v2 => by
    rw [step15_4]
    simp only [it15_4 x xd K n, lp15_4, st15_4, obind_cond, obind_none, obind_some, obind_obind, obind_osum]
    try simp only [osum]
theorem ok15_4 : LoopOk env15 15 c15_4 ls15_4 := loopBy_ok (by kernel_rfl) fun R x xd K v o h => ⟨fuelN, (it15_4 x xd K fuelN (v.1.1) (v.1.2.1) (v.1.2.2.1)).trans (congrArg (fun o => obind o _) h)⟩
theorem run15 (x0 : List (Int × Int × Int × Int × Unit)) (x1 : List (Int × Int × Int × Int × Unit)) : runF env15 15 [.list (.pair (.int .i64) (.pair (.int .i64) (.pair (.int .i64) (.pair (.int .i64) .unit)))), .list (.pair (.int .i64) (.pair (.int .i64) (.pair (.int .i64) (.pair (.int .i64) .unit))))] [(.bool, false)] (x0, x1, ()) = fn15 x0 x1 := by kernel_rfl
theorem lat15 : loopsAt b15 = [c15_4] := by kernel_rfl
theorem lok15 : loopsOk env15 15 b15 := loopsOk_at b15 (by rw [lat15]; exact (List.forall_mem_cons.2 ⟨(fun L h => by rw [show env15.lp 15 (firstRegion c15_4) = some ls15_4 by kernel_rfl] at h; cases h; exact ok15_4), (fun _ h => absurd h List.not_mem_nil)⟩))
theorem env15_ok : EnvOk env15 := envOf_ok tok mixed noGor (sg := []) (fun _ h => absurd h List.not_mem_nil) (fn := Try.f15) (c := b15) (by kernel_rfl) (by kernel_rfl) lok15
theorem sum15_ok : SumOk Try.prog 15 sum15 := sum_of_run env15_ok (by decide) fun x y h => (run15 (x.1) (x.2.1)).trans h

/-! ### quillwort/quillwortlaw11.TreeReads -/
def fn4 (x0 : List UInt8) : Option (Bool × Unit) :=
  bif (ltI 200 (lenI x0)) then
    some (true, ())
  else
  obind (fn13 x0) fun y0 =>
    obind (fn14 x0) fun y1 =>
      bif (leI 0 y1.2.1) then
        bif (eqI y0.2.2.1 4) then
          bif (eqI y0.2.1 y1.2.1) then
            some ((eqI (lenI y0.1) 0), ())
          else
          some (false, ())
        else
        some (false, ())
      else
      bif (inI y1.1 0) then
        obind (fn12 y1.1 (getI y1.1 (0, (0, (0, (0, ())))) 0).2.2.1) fun y2 =>
          bif (!y2.1) then
            bif (eqI y0.2.2.1 14) then
              bif (eqI y0.2.1 0) then
                some ((eqI (lenI y0.1) 0), ())
              else
              some (false, ())
            else
            some (false, ())
          else
          bif (eqI y0.2.2.1 0) then
            bif (eqI y0.2.1 0) then
              obind (fn15 y0.1 y1.1) fun y3 =>
                some (y3.1, ())
            else
            some (false, ())
          else
          some (false, ())
      else
      none
def sum4 : Sum := (⟨[.str], [(.bool, false)], fun x => fn4 x.1⟩ : Sum)
noncomputable def env4 : Env := envOf Try.prog tt 4 [(10, sumAwake), (12, sum12), (13, sum13), (14, sum14), (15, sum15)] [] []
theorem run4 (x0 : List UInt8) : runF env4 4 [.str] [(.bool, false)] (x0, ()) = fn4 x0 := by kernel_rfl
theorem env4_ok : EnvOk env4 := envOf_ok tok mixed noGor (sg := [(10, sumAwake), (12, sum12), (13, sum13), (14, sum14), (15, sum15)]) (List.forall_mem_cons.2 ⟨(sumAwake_ok), (List.forall_mem_cons.2 ⟨(sum12_ok), (List.forall_mem_cons.2 ⟨(sum13_ok), (List.forall_mem_cons.2 ⟨(sum14_ok), (List.forall_mem_cons.2 ⟨(sum15_ok), (fun _ h => absurd h List.not_mem_nil)⟩)⟩)⟩)⟩)⟩) (fn := Try.f4) (c := (Try.f4.body).getD .skip) (by kernel_rfl) (by kernel_rfl) (loopsOk_none (fun _ => rfl) _)
theorem sum4_ok : SumOk Try.prog 4 sum4 := sum_of_run env4_ok (by decide) fun x y h => (run4 (x.1)).trans h

end Go.Proofs.Ytfeklnaeolangaa
