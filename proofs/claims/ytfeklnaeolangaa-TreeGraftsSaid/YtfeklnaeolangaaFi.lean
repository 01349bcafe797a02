/-
  The plain functions of TreeGrafts.
-/
import Derived.Test.YtfeklnaeolangaaFc
namespace Go.Proofs.Ytfeklnaeolangaa
open Go.RowKit
set_option linter.unusedVariables false
set_option linter.unusedSimpArgs false
set_option maxRecDepth 100000

/-! ### slices.Clone -/
abbrev NdT : Ty := (.pair (.int .i64) (.pair (.int .i64) (.pair (.int .i64) (.pair (.int .i64) .unit))))
def cloneF (l : List (Int × Int × Int × Int × Unit)) : Option (List (Int × Int × Int × Int × Unit)) := bif fitI l 32 then some l else none
def cloneN (l : List (Int × Int × Int × Int × Unit)) : Option (List (Int × Int × Int × Int × Unit)) := bif ltL 0 l then cloneF l else none
noncomputable def env29 : Env := envOf Try.prog tt 29 [] [] []
theorem env29_ok : EnvOk env29 := envOf_ok tok mixed noGor (sg := []) (fun _ h => absurd h List.not_mem_nil) (fn := Try.f29) (c := (Try.f29.body).getD .skip) (by kernel_rfl) (by kernel_rfl) (loopsOk_none (fun _ => rfl) _)
theorem clone_old (xs : List (Int × Int × Int × Int × Unit)) : exec env29 1000000 (.call 29 [.lst NdT xs false]) ⟨[], [], [], 0⟩ (fun v st => resOf false [(.list NdT, false)] (resL 1 v) st.hp) = (bif fitI xs 32 then some (xs, ()) else none) := by kernel_rfl
theorem clone_nil : exec env29 1000000 (.call 29 [.lst NdT [] true]) ⟨[], [], [], 0⟩ (fun v st => resOf false [(.list NdT, false)] (resL 1 v) st.hp) = some ([], ()) := by kernel_rfl
theorem clone_new (xs : List (Int × Int × Int × Int × Unit)) : exec env29 1000000 (.call 29 [.lst NdT xs false]) ⟨[], [], [], 0⟩ (fun v st => resOf true [(.list NdT, true)] (resL 1 v) st.hp) = (bif fitI xs 32 then some (xs, ()) else none) := by kernel_rfl
namespace cl0
def fn29 (l : List (Int × Int × Int × Int × Unit)) : Option (List (Int × Int × Int × Int × Unit) × Unit) := match cloneF l with | some y => some (y, ()) | none => none
def sum29 : Sum := ⟨[.list NdT], [(.list NdT, false)], fun x => fn29 x.1⟩
theorem sum29_ok : SumOk Try.prog 29 sum29 := by
  have base := sum_of_lst (e := NdT) (e2 := NdT) env29_ok (g := 29) (f := cloneF) (show 0 < NdT.size by decide) (fun xs y h => by
      unfold cloneF at h
      rw [clone_old]
      cases hf : fitI xs 32 with
      | true => rw [hf] at h; cases h; rfl
      | false => rw [hf] at h; cases h) fun y h => by
      have e : cloneF [] = some [] := rfl
      rw [e] at h
      cases h
      exact clone_nil
  intro w bar args' x y hb hd hy
  refine base w bar args' x y hb hd ?_
  have hy : fn29 x.1 = some y := hy
  unfold fn29 at hy
  cases hc : cloneF x.1 with
  | none => rw [hc] at hy; cases hy
  | some z => rw [hc] at hy; simp only [hc]; exact hy

/-! ### quillwort/tree.Hang -/
noncomputable def b19 : Code := (Try.f19.body).getD .skip
noncomputable def c19_5 : Code := cA (cA (cB (cA (cB (cB (cB (b19)))))))
def k19_5 : Keep := ⟨[0, 2, 7, 21, 22, 23, 100005], [], [7], [], [6], [(6, (.pair (.int .i64) (.pair (.int .i64) (.pair (.int .i64) (.pair (.int .i64) .unit)))))]⟩
def p19_5 : SP := ⟨us [.v (.list (.pair (.int .i64) (.pair (.int .i64) (.pair (.int .i64) (.pair (.int .i64) .unit))))), .u, .v (.int .i64), .u, .u, .u, .u, .v (.list (.pair (.int .i64) (.pair (.int .i64) (.pair (.int .i64) (.pair (.int .i64) .unit))))), .u, .u, .u, .u, .u, .u, .u, .u, .u, .u, .u, .u, .u, .v (.list (.pair (.int .i64) (.pair (.int .i64) (.pair (.int .i64) (.pair (.int .i64) .unit))))), .v (.int .i64), .v (.int .i64)] 29, []⟩
def pa19_5 : SP := ⟨us [.u, .u, .u, .u, .u, .u, .u, .v (.list (.pair (.int .i64) (.pair (.int .i64) (.pair (.int .i64) (.pair (.int .i64) .unit)))))] 45, []⟩
def pb19_5 : SP := ⟨us [.u, .u, .u, .u, .u, .u, .v (.list (.pair (.int .i64) (.pair (.int .i64) (.pair (.int .i64) (.pair (.int .i64) .unit)))))] 46, []⟩
def st19_5 {γ : Type} (rec : (List (Int × Int × Int × Int × Unit)) → Int → (List (Int × Int × Int × Int × Unit)) → (List (Int × Int × Int × Int × Unit)) → Int → Int → Option γ) (kE : (List (Int × Int × Int × Int × Unit)) → Option γ) (kR : (List (Int × Int × Int × Int × Unit)) → Option γ) (v0 : List (Int × Int × Int × Int × Unit)) (v1 : Int) (v2 : List (Int × Int × Int × Int × Unit)) (v3 : List (Int × Int × Int × Int × Unit)) (v4 : Int) (v5 : Int) : Option γ :=
  bif (ltI v5 v4) then
    bif (inI v3 v5) then
      bif (eqI v5 0) then
        none
      else
      none
    else
    none
  else
  kE v2
def lp19_5 : Nat → (List (Int × Int × Int × Int × Unit)) → Int → (List (Int × Int × Int × Int × Unit)) → (List (Int × Int × Int × Int × Unit)) → Int → Int → Option (pa19_5.den ⊕ pb19_5.den)
  | 0, _, _, _, _, _, _ => none
  | n + 1, v0, v1, v2, v3, v4, v5 => st19_5 (lp19_5 n) (fun e0 => some (.inl ((e0, ()), ()))) (fun r0 => some (.inr ((r0, ()), ()))) v0 v1 v2 v3 v4 v5
def ls19_5 : LoopSum := loopBy k19_5 p19_5 pa19_5 pb19_5 (.exit 0) fun v => lp19_5 fuelN v.1.1 v.1.2.1 v.1.2.2.1 v.1.2.2.2.1 v.1.2.2.2.2.1 v.1.2.2.2.2.2.1
def fn19 (x0 : List (Int × Int × Int × Int × Unit)) (x1 : List (Int × Int × Int × Int × Unit)) (x2 : Int) : Option ((List (Int × Int × Int × Int × Unit)) × Unit) :=
  obind (fn29 x0) fun y0 =>
    bif (eqI (lenI x0) 0) then
      some (y0.1, ())
    else
    bif (eqI (lenI x1) 0) then
      some (y0.1, ())
    else
    obind (lp19_5 fuelN x0 x2 y0.1 x1 (lenI x1) 0) fun y1 =>
      osum y1 (fun a2 =>
        some (a2.1.1, ())) (fun b2 =>
        some (b2.1.1, ()))
def sum19 : Sum := (⟨[.list (.pair (.int .i64) (.pair (.int .i64) (.pair (.int .i64) (.pair (.int .i64) .unit)))), .list (.pair (.int .i64) (.pair (.int .i64) (.pair (.int .i64) (.pair (.int .i64) .unit)))), .int .i64], [(.list (.pair (.int .i64) (.pair (.int .i64) (.pair (.int .i64) (.pair (.int .i64) .unit)))), false)], fun x => fn19 x.1 x.2.1 x.2.2.1⟩ : Sum)
noncomputable def env19 : Env := envOf Try.prog tt 19 [(29, sum29)] [(5, k19_5)] [(5, ls19_5)]
theorem step19_5 {R : Type} (x : ExecFn R) (xd : Job → St → Option AVal) (n : Nat) (K : Ex → St → Option R) (v0 : List (Int × Int × Int × Int × Unit)) (v1 : Int) (v2 : List (Int × Int × Int × Int × Unit)) (v3 : List (Int × Int × Int × Int × Unit)) (v4 : Int) (v5 : Int) :
    iter (some k19_5) (run env19 x xd 19 c19_5) (n + 1) (mkSt p19_5 ((v0, v1, v2, v3, v4, v5, ()), ())) K =
      st19_5 (fun v0 v1 v2 v3 v4 v5 => iter (some k19_5) (run env19 x xd 19 c19_5) n (mkSt p19_5 ((v0, v1, v2, v3, v4, v5, ()), ())) K) (fun e0 => K (.exit 0) (mkSt pa19_5 ((e0, ()), ()))) (fun r0 => K .ret (mkSt pb19_5 ((r0, ()), ()))) v0 v1 v2 v3 v4 v5 := by kernel_rfl
theorem it19_5 {R : Type} (x : ExecFn R) (xd : Job → St → Option AVal) (K : Ex → St → Option R) : ∀ (n : Nat) (v0 : List (Int × Int × Int × Int × Unit)) (v1 : Int) (v2 : List (Int × Int × Int × Int × Unit)) (v3 : List (Int × Int × Int × Int × Unit)) (v4 : Int) (v5 : Int),
    iter (some k19_5) (run env19 x xd 19 c19_5) n (mkSt p19_5 ((v0, v1, v2, v3, v4, v5, ()), ())) K = obind (lp19_5 n v0 v1 v2 v3 v4 v5) fun o => osum o (fun a => K (.exit 0) (mkSt pa19_5 a)) fun b => K .ret (mkSt pb19_5 b)
  | 0, _, _, _, _, _, _ => rfl
  | n + 1, v0, v1, v2, v3, v4, v5 => by
    rw [step19_5]
    simp only [it19_5 x xd K n, lp19_5, st19_5, obind_cond, obind_none, obind_some, obind_obind, obind_osum]
    try simp only [osum]
theorem ok19_5 : LoopOk env19 19 c19_5 ls19_5 := loopBy_ok (by kernel_rfl) fun R x xd K v o h => ⟨fuelN, (it19_5 x xd K fuelN (v.1.1) (v.1.2.1) (v.1.2.2.1) (v.1.2.2.2.1) (v.1.2.2.2.2.1) (v.1.2.2.2.2.2.1)).trans (congrArg (fun o => obind o _) h)⟩
theorem run19 (x0 : List (Int × Int × Int × Int × Unit)) (x1 : List (Int × Int × Int × Int × Unit)) (x2 : Int) : runF env19 19 [.list (.pair (.int .i64) (.pair (.int .i64) (.pair (.int .i64) (.pair (.int .i64) .unit)))), .list (.pair (.int .i64) (.pair (.int .i64) (.pair (.int .i64) (.pair (.int .i64) .unit)))), .int .i64] [(.list (.pair (.int .i64) (.pair (.int .i64) (.pair (.int .i64) (.pair (.int .i64) .unit)))), false)] (x0, x1, x2, ()) = fn19 x0 x1 x2 := by kernel_rfl
theorem lat19 : loopsAt b19 = [c19_5] := by kernel_rfl
theorem lok19 : loopsOk env19 19 b19 := loopsOk_at b19 (by rw [lat19]; exact (List.forall_mem_cons.2 ⟨(fun L h => by rw [show env19.lp 19 (firstRegion c19_5) = some ls19_5 by kernel_rfl] at h; cases h; exact ok19_5), (fun _ h => absurd h List.not_mem_nil)⟩))
theorem env19_ok : EnvOk env19 := envOf_ok tok mixed noGor (sg := [(29, sum29)]) (List.forall_mem_cons.2 ⟨(sum29_ok), (fun _ h => absurd h List.not_mem_nil)⟩) (fn := Try.f19) (c := b19) (by kernel_rfl) (by kernel_rfl) lok19
theorem sum19_ok : SumOk Try.prog 19 sum19 := sum_of_run env19_ok (by decide) fun x y h => (run19 (x.1) (x.2.1) (x.2.2.1)).trans h

end cl0
namespace cl1
def fn29 (l : List (Int × Int × Int × Int × Unit)) : Option (List (Int × Int × Int × Int × Unit) × Unit) := match cloneN l with | some y => some (y, ()) | none => none
def sum29 : Sum := ⟨[.list NdT], [(.list NdT, true)], fun x => fn29 x.1⟩
theorem sum29_ok : SumOk Try.prog 29 sum29 := by
  have base := sum_of_lst_new (e := NdT) (e2 := NdT) env29_ok (g := 29) (f := cloneN) (show 0 < NdT.size by decide) rfl fun xs y h => by
      unfold cloneN cloneF at h
      rw [clone_new]
      cases hl : ltL 0 xs with
      | false => rw [hl] at h; cases h
      | true =>
        rw [hl] at h
        cases hf : fitI xs 32 with
        | true => rw [hf] at h; cases h; rfl
        | false => rw [hf] at h; cases h
  intro w bar args' x y hb hd hy
  refine base w bar args' x y hb hd ?_
  have hy : fn29 x.1 = some y := hy
  unfold fn29 at hy
  cases hc : cloneN x.1 with
  | none => rw [hc] at hy; cases hy
  | some z => rw [hc] at hy; simp only [hc]; exact hy

/-! ### quillwort/tree.Hang -/
noncomputable def b19 : Code := (Try.f19.body).getD .skip
noncomputable def c19_5 : Code := cA (cA (cB (cA (cB (cB (cB (b19)))))))
def k19_5 : Keep := ⟨[0, 2, 7, 21, 22, 23, 100005], [], [7], [], [6], [(6, (.pair (.int .i64) (.pair (.int .i64) (.pair (.int .i64) (.pair (.int .i64) .unit)))))]⟩
def p19_5 : SP := ⟨us [.v (.list (.pair (.int .i64) (.pair (.int .i64) (.pair (.int .i64) (.pair (.int .i64) .unit))))), .u, .v (.int .i64), .u, .u, .u, .u, .slc 1100011, .u, .u, .u, .u, .u, .u, .u, .u, .u, .u, .u, .u, .u, .v (.list (.pair (.int .i64) (.pair (.int .i64) (.pair (.int .i64) (.pair (.int .i64) .unit))))), .v (.int .i64), .v (.int .i64)] 29, [.arr 1100011 (.pair (.int .i64) (.pair (.int .i64) (.pair (.int .i64) (.pair (.int .i64) .unit))))]⟩
def pa19_5 : SP := ⟨us [.u, .u, .u, .u, .u, .u, .u, .slc 1100011] 45, [.arr 1100011 (.pair (.int .i64) (.pair (.int .i64) (.pair (.int .i64) (.pair (.int .i64) .unit))))]⟩
def pb19_5 : SP := ⟨us [.u, .u, .u, .u, .u, .u, .v (.list (.pair (.int .i64) (.pair (.int .i64) (.pair (.int .i64) (.pair (.int .i64) .unit)))))] 46, []⟩
def st19_5 {γ : Type} (rec : (List (Int × Int × Int × Int × Unit)) → Int → (List (Int × Int × Int × Int × Unit)) → Int → Int → (List (Int × Int × Int × Int × Unit)) → Option γ) (kE : (List (Int × Int × Int × Int × Unit)) → Option γ) (kR : (List (Int × Int × Int × Int × Unit)) → Option γ) (v0 : List (Int × Int × Int × Int × Unit)) (v1 : Int) (v2 : List (Int × Int × Int × Int × Unit)) (v3 : Int) (v4 : Int) (v5 : List (Int × Int × Int × Int × Unit)) : Option γ :=
  bif (ltI v4 v3) then
    bif (inI v2 v4) then
      bif (eqI v4 0) then
        bif (fitI (catL v5 [((getI v2 (0, (0, (0, (0, ())))) v4).1, ((addK .i64 (getI v2 (0, (0, (0, (0, ())))) v4).2.1 v1), ((addK .i64 (getI v2 (0, (0, (0, (0, ())))) v4).2.2.1 v1), (0, ()))))]) 32) then
          rec v0 v1 v2 v3 (addK .i64 v4 1) (catL v5 [((getI v2 (0, (0, (0, (0, ())))) v4).1, ((addK .i64 (getI v2 (0, (0, (0, (0, ())))) v4).2.1 v1), ((addK .i64 (getI v2 (0, (0, (0, (0, ())))) v4).2.2.1 v1), (0, ()))))])
        else
        none
      else
      bif (fitI (catL v5 [((getI v2 (0, (0, (0, (0, ())))) v4).1, ((addK .i64 (getI v2 (0, (0, (0, (0, ())))) v4).2.1 v1), ((addK .i64 (getI v2 (0, (0, (0, (0, ())))) v4).2.2.1 v1), ((addK .i64 (getI v2 (0, (0, (0, (0, ())))) v4).2.2.2.1 (lenI v0)), ()))))]) 32) then
        rec v0 v1 v2 v3 (addK .i64 v4 1) (catL v5 [((getI v2 (0, (0, (0, (0, ())))) v4).1, ((addK .i64 (getI v2 (0, (0, (0, (0, ())))) v4).2.1 v1), ((addK .i64 (getI v2 (0, (0, (0, (0, ())))) v4).2.2.1 v1), ((addK .i64 (getI v2 (0, (0, (0, (0, ())))) v4).2.2.2.1 (lenI v0)), ()))))])
      else
      none
    else
    none
  else
  kE v5
def lp19_5 : Nat → (List (Int × Int × Int × Int × Unit)) → Int → (List (Int × Int × Int × Int × Unit)) → Int → Int → (List (Int × Int × Int × Int × Unit)) → Option (pa19_5.den ⊕ pb19_5.den)
  | 0, _, _, _, _, _, _ => none
  | n + 1, v0, v1, v2, v3, v4, v5 => st19_5 (lp19_5 n) (fun e0 => some (.inl ((), (e0, ())))) (fun r0 => some (.inr ((r0, ()), ()))) v0 v1 v2 v3 v4 v5
def ls19_5 : LoopSum := loopBy k19_5 p19_5 pa19_5 pb19_5 (.exit 0) fun v => lp19_5 fuelN v.1.1 v.1.2.1 v.1.2.2.1 v.1.2.2.2.1 v.1.2.2.2.2.1 v.2.1
def fn19 (x0 : List (Int × Int × Int × Int × Unit)) (x1 : List (Int × Int × Int × Int × Unit)) (x2 : Int) : Option ((List (Int × Int × Int × Int × Unit)) × Unit) :=
  obind (fn29 x0) fun y0 =>
    bif (eqI (lenI x0) 0) then
      some (y0.1, ())
    else
    bif (eqI (lenI x1) 0) then
      some (y0.1, ())
    else
    obind (lp19_5 fuelN x0 x2 x1 (lenI x1) 0 y0.1) fun y1 =>
      osum y1 (fun a2 =>
        some (a2.2.1, ())) (fun b2 =>
        some (b2.1.1, ()))
def sum19 : Sum := (⟨[.list (.pair (.int .i64) (.pair (.int .i64) (.pair (.int .i64) (.pair (.int .i64) .unit)))), .list (.pair (.int .i64) (.pair (.int .i64) (.pair (.int .i64) (.pair (.int .i64) .unit)))), .int .i64], [(.list (.pair (.int .i64) (.pair (.int .i64) (.pair (.int .i64) (.pair (.int .i64) .unit)))), false)], fun x => fn19 x.1 x.2.1 x.2.2.1⟩ : Sum)
noncomputable def env19 : Env := envOf Try.prog tt 19 [(29, sum29)] [(5, k19_5)] [(5, ls19_5)]
theorem step19_5 {R : Type} (x : ExecFn R) (xd : Job → St → Option AVal) (n : Nat) (K : Ex → St → Option R) (v0 : List (Int × Int × Int × Int × Unit)) (v1 : Int) (v2 : List (Int × Int × Int × Int × Unit)) (v3 : Int) (v4 : Int) (v5 : List (Int × Int × Int × Int × Unit)) :
    iter (some k19_5) (run env19 x xd 19 c19_5) (n + 1) (mkSt p19_5 ((v0, v1, v2, v3, v4, ()), (v5, ()))) K =
      st19_5 (fun v0 v1 v2 v3 v4 v5 => iter (some k19_5) (run env19 x xd 19 c19_5) n (mkSt p19_5 ((v0, v1, v2, v3, v4, ()), (v5, ()))) K) (fun e0 => K (.exit 0) (mkSt pa19_5 ((), (e0, ())))) (fun r0 => K .ret (mkSt pb19_5 ((r0, ()), ()))) v0 v1 v2 v3 v4 v5 := by kernel_rfl
theorem it19_5 {R : Type} (x : ExecFn R) (xd : Job → St → Option AVal) (K : Ex → St → Option R) : ∀ (n : Nat) (v0 : List (Int × Int × Int × Int × Unit)) (v1 : Int) (v2 : List (Int × Int × Int × Int × Unit)) (v3 : Int) (v4 : Int) (v5 : List (Int × Int × Int × Int × Unit)),
    iter (some k19_5) (run env19 x xd 19 c19_5) n (mkSt p19_5 ((v0, v1, v2, v3, v4, ()), (v5, ()))) K = obind (lp19_5 n v0 v1 v2 v3 v4 v5) fun o => osum o (fun a => K (.exit 0) (mkSt pa19_5 a)) fun b => K .ret (mkSt pb19_5 b)
  | 0, _, _, _, _, _, _ => rfl
  | n + 1, v0, v1, v2, v3, v4, v5 => by
    rw [step19_5]
    simp only [it19_5 x xd K n, lp19_5, st19_5, obind_cond, obind_none, obind_some, obind_obind, obind_osum]
    try simp only [osum]
theorem ok19_5 : LoopOk env19 19 c19_5 ls19_5 := loopBy_ok (by kernel_rfl) fun R x xd K v o h => ⟨fuelN, (it19_5 x xd K fuelN (v.1.1) (v.1.2.1) (v.1.2.2.1) (v.1.2.2.2.1) (v.1.2.2.2.2.1) (v.2.1)).trans (congrArg (fun o => obind o _) h)⟩
theorem run19 (x0 : List (Int × Int × Int × Int × Unit)) (x1 : List (Int × Int × Int × Int × Unit)) (x2 : Int) : runF env19 19 [.list (.pair (.int .i64) (.pair (.int .i64) (.pair (.int .i64) (.pair (.int .i64) .unit)))), .list (.pair (.int .i64) (.pair (.int .i64) (.pair (.int .i64) (.pair (.int .i64) .unit)))), .int .i64] [(.list (.pair (.int .i64) (.pair (.int .i64) (.pair (.int .i64) (.pair (.int .i64) .unit)))), false)] (x0, x1, x2, ()) = fn19 x0 x1 x2 := by kernel_rfl
theorem lat19 : loopsAt b19 = [c19_5] := by kernel_rfl
theorem lok19 : loopsOk env19 19 b19 := loopsOk_at b19 (by rw [lat19]; exact (List.forall_mem_cons.2 ⟨(fun L h => by rw [show env19.lp 19 (firstRegion c19_5) = some ls19_5 by kernel_rfl] at h; cases h; exact ok19_5), (fun _ h => absurd h List.not_mem_nil)⟩))
theorem env19_ok : EnvOk env19 := envOf_ok tok mixed noGor (sg := [(29, sum29)]) (List.forall_mem_cons.2 ⟨(sum29_ok), (fun _ h => absurd h List.not_mem_nil)⟩) (fn := Try.f19) (c := b19) (by kernel_rfl) (by kernel_rfl) lok19
theorem sum19_ok : SumOk Try.prog 19 sum19 := sum_of_run env19_ok (by decide) fun x y h => (run19 (x.1) (x.2.1) (x.2.2.1)).trans h

end cl1
def fn19 (x0 x1 : List (Int × Int × Int × Int × Unit)) (x2 : Int) : Option (List (Int × Int × Int × Int × Unit) × Unit) := bif x0.isEmpty then cl0.fn19 x0 x1 x2 else cl1.fn19 x0 x1 x2
def sum19 : Sum := ⟨[.list NdT, .list NdT, .int .i64], [(.list NdT, false)], fun x => fn19 x.1 x.2.1 x.2.2.1⟩
theorem sum19_ok : SumOk Try.prog 19 sum19 := sum_or (ps := [.list NdT, .list NdT, .int .i64]) (rs := [(.list NdT, false)]) (f1 := fun x => cl0.fn19 x.1 x.2.1 x.2.2.1) (f2 := fun x => cl1.fn19 x.1 x.2.1 x.2.2.1) (fun x => x.1.isEmpty) cl0.sum19_ok cl1.sum19_ok

/-! ### quillwort/quillwortlaw11.SameTree -/
noncomputable def b15 : Code := (Try.f15.body).getD .skip
noncomputable def c15_4 : Code := cA (cA (cB (cA (cB (cB (b15))))))
def k15_4 : Keep := ⟨[0, 1, 5, 100004], [], [], [], [4], []⟩
def p15_4 : SP := ⟨us [.v (.list (.pair (.int .i64) (.pair (.int .i64) (.pair (.int .i64) (.pair (.int .i64) .unit))))), .v (.list (.pair (.int .i64) (.pair (.int .i64) (.pair (.int .i64) (.pair (.int .i64) .unit))))), .u, .u, .u, .v (.int .i64)] 20, []⟩
def pa15_4 : SP := ⟨us [] 26, []⟩
def pb15_4 : SP := ⟨us [.u, .u, .u, .u, .v .bool] 21, []⟩
def st15_4 {γ : Type} (rec : (List (Int × Int × Int × Int × Unit)) → (List (Int × Int × Int × Int × Unit)) → Int → Option γ) (kE : Option γ) (kR : Bool → Option γ) (v0 : List (Int × Int × Int × Int × Unit)) (v1 : List (Int × Int × Int × Int × Unit)) (v2 : Int) : Option γ :=
  bif (ltI v2 (lenI v0)) then
    bif (inI v0 v2) then
      bif (inI v1 v2) then
        bif (!((eqI (getI v0 (0, (0, (0, (0, ())))) v2).1 (getI v1 (0, (0, (0, (0, ())))) v2).1) && ((eqI (getI v0 (0, (0, (0, (0, ())))) v2).2.1 (getI v1 (0, (0, (0, (0, ())))) v2).2.1) && ((eqI (getI v0 (0, (0, (0, (0, ())))) v2).2.2.1 (getI v1 (0, (0, (0, (0, ())))) v2).2.2.1) && ((eqI (getI v0 (0, (0, (0, (0, ())))) v2).2.2.2.1 (getI v1 (0, (0, (0, (0, ())))) v2).2.2.2.1) && true))))) then
          kR false
        else
        rec v0 v1 (addK .i64 v2 1)
      else
      none
    else
    none
  else
  kE 
def lp15_4 : Nat → (List (Int × Int × Int × Int × Unit)) → (List (Int × Int × Int × Int × Unit)) → Int → Option (pa15_4.den ⊕ pb15_4.den)
  | 0, _, _, _ => none
  | n + 1, v0, v1, v2 => st15_4 (lp15_4 n) (some (.inl ((), ()))) (fun r0 => some (.inr ((r0, ()), ()))) v0 v1 v2
def ls15_4 : LoopSum := loopBy k15_4 p15_4 pa15_4 pb15_4 (.exit 0) fun v => lp15_4 fuelN v.1.1 v.1.2.1 v.1.2.2.1
def fn15 (x0 : List (Int × Int × Int × Int × Unit)) (x1 : List (Int × Int × Int × Int × Unit)) : Option (Bool × Unit) :=
  bif (!(eqI (lenI x0) (lenI x1))) then
    some (false, ())
  else
  obind (lp15_4 fuelN x0 x1 0) fun y0 =>
    osum y0 (fun a1 =>
      some (true, ())) (fun b1 =>
      some (b1.1.1, ()))
def sum15 : Sum := (⟨[.list (.pair (.int .i64) (.pair (.int .i64) (.pair (.int .i64) (.pair (.int .i64) .unit)))), .list (.pair (.int .i64) (.pair (.int .i64) (.pair (.int .i64) (.pair (.int .i64) .unit))))], [(.bool, false)], fun x => fn15 x.1 x.2.1⟩ : Sum)
noncomputable def env15 : Env := envOf Try.prog tt 15 [] [(4, k15_4)] [(4, ls15_4)]
theorem step15_4 {R : Type} (x : ExecFn R) (xd : Job → St → Option AVal) (n : Nat) (K : Ex → St → Option R) (v0 : List (Int × Int × Int × Int × Unit)) (v1 : List (Int × Int × Int × Int × Unit)) (v2 : Int) :
    iter (some k15_4) (run env15 x xd 15 c15_4) (n + 1) (mkSt p15_4 ((v0, v1, v2, ()), ())) K =
      st15_4 (fun v0 v1 v2 => iter (some k15_4) (run env15 x xd 15 c15_4) n (mkSt p15_4 ((v0, v1, v2, ()), ())) K) (K (.exit 0) (mkSt pa15_4 ((), ()))) (fun r0 => K .ret (mkSt pb15_4 ((r0, ()), ()))) v0 v1 v2 := by kernel_rfl
theorem it15_4 {R : Type} (x : ExecFn R) (xd : Job → St → Option AVal) (K : Ex → St → Option R) : ∀ (n : Nat) (v0 : List (Int × Int × Int × Int × Unit)) (v1 : List (Int × Int × Int × Int × Unit)) (v2 : Int),
    iter (some k15_4) (run env15 x xd 15 c15_4) n (mkSt p15_4 ((v0, v1, v2, ()), ())) K = obind (lp15_4 n v0 v1 v2) fun o => osum o (fun a => K (.exit 0) (mkSt pa15_4 a)) fun b => K .ret (mkSt pb15_4 b)
  | 0, _, _, _ => rfl
  | n + 1, v0, v1, v2 => by
    rw [step15_4]
    simp only [it15_4 x xd K n, lp15_4, st15_4, obind_cond, obind_none, obind_some, obind_obind, obind_osum]
    try simp only [osum]
theorem ok15_4 : LoopOk env15 15 c15_4 ls15_4 := loopBy_ok (by kernel_rfl) fun R x xd K v o h => ⟨fuelN, (it15_4 x xd K fuelN (v.1.1) (v.1.2.1) (v.1.2.2.1)).trans (congrArg (fun o => obind o _) h)⟩
theorem run15 (x0 : List (Int × Int × Int × Int × Unit)) (x1 : List (Int × Int × Int × Int × Unit)) : runF env15 15 [.list (.pair (.int .i64) (.pair (.int .i64) (.pair (.int .i64) (.pair (.int .i64) .unit)))), .list (.pair (.int .i64) (.pair (.int .i64) (.pair (.int .i64) (.pair (.int .i64) .unit))))] [(.bool, false)] (x0, x1, ()) = fn15 x0 x1 := by kernel_rfl
theorem lat15 : loopsAt b15 = [c15_4] := by kernel_rfl
theorem lok15 : loopsOk env15 15 b15 := loopsOk_at b15 (by rw [lat15]; exact (List.forall_mem_cons.2 ⟨(fun L h => by rw [show env15.lp 15 (firstRegion c15_4) = some ls15_4 by kernel_rfl] at h; cases h; exact ok15_4), (fun _ h => absurd h List.not_mem_nil)⟩))
theorem env15_ok : EnvOk env15 := envOf_ok tok mixed noGor (sg := []) (fun _ h => absurd h List.not_mem_nil) (fn := Try.f15) (c := b15) (by kernel_rfl) (by kernel_rfl) lok15
theorem sum15_ok : SumOk Try.prog 15 sum15 := sum_of_run env15_ok (by decide) fun x y h => (run15 (x.1) (x.2.1)).trans h

namespace cl1
/-! ### quillwort/tree.Sub -/
noncomputable def b24 : Code := (Try.f24.body).getD .skip
noncomputable def c24_5 : Code := cA (cA (cB (cA (cB (cB (cB (b24)))))))
def k24_5 : Keep := ⟨[1, 5, 19, 20, 100005], [], [5], [], [4], [(4, (.pair (.int .i64) (.pair (.int .i64) (.pair (.int .i64) (.pair (.int .i64) .unit)))))]⟩
def p24_5 : SP := ⟨us [.u, .v (.int .i64), .u, .u, .u, .slc 1100017, .u, .u, .u, .u, .u, .u, .u, .u, .u, .u, .u, .u, .u, .v (.int .i64), .v (.int .i64)] 16, [.arr 1100017 (.pair (.int .i64) (.pair (.int .i64) (.pair (.int .i64) (.pair (.int .i64) .unit))))]⟩
def pa24_5 : SP := ⟨us [.u, .u, .u, .u, .u, .slc 1100017] 31, [.arr 1100017 (.pair (.int .i64) (.pair (.int .i64) (.pair (.int .i64) (.pair (.int .i64) .unit))))]⟩
def pb24_5 : SP := ⟨us [.u, .u, .u, .u, .v (.list (.pair (.int .i64) (.pair (.int .i64) (.pair (.int .i64) (.pair (.int .i64) .unit)))))] 32, []⟩
def st24_5 {γ : Type} (rec : Int → Int → Int → (List (Int × Int × Int × Int × Unit)) → Option γ) (kE : (List (Int × Int × Int × Int × Unit)) → Option γ) (kR : (List (Int × Int × Int × Int × Unit)) → Option γ) (v0 : Int) (v1 : Int) (v2 : Int) (v3 : List (Int × Int × Int × Int × Unit)) : Option γ :=
  bif (ltI v2 v1) then
    bif (inI v3 v2) then
      bif (ltL (natI v2) v3) then
        bif (inI v3 v2) then
          bif (ltL (natI v2) v3) then
            rec v0 v1 (addK .i64 v2 1) (setI v3 (natI v2) ((nthN v3 (0, (0, (0, (0, ())))) (natI v2)).1, ((nthN v3 (0, (0, (0, (0, ())))) (natI v2)).2.1, ((nthN v3 (0, (0, (0, (0, ())))) (natI v2)).2.2.1, ((subK .i64 (nthN v3 (0, (0, (0, (0, ())))) (natI v2)).2.2.2.1 v0), ())))))
          else
          none
        else
        none
      else
      none
    else
    none
  else
  kE v3
def lp24_5 : Nat → Int → Int → Int → (List (Int × Int × Int × Int × Unit)) → Option (pa24_5.den ⊕ pb24_5.den)
  | 0, _, _, _, _ => none
  | n + 1, v0, v1, v2, v3 => st24_5 (lp24_5 n) (fun e0 => some (.inl ((), (e0, ())))) (fun r0 => some (.inr ((r0, ()), ()))) v0 v1 v2 v3
def ls24_5 : LoopSum := loopBy k24_5 p24_5 pa24_5 pb24_5 (.exit 0) fun v => lp24_5 fuelN v.1.1 v.1.2.1 v.1.2.2.1 v.2.1
def fn24 (x0 : List (Int × Int × Int × Int × Unit)) (x1 : Int) : Option ((List (Int × Int × Int × Int × Unit)) × Unit) :=
  obind (fn31 x0 x1) fun y0 =>
    bif (!y0.1) then
      some ([], ())
    else
    obind (fn23 x0 x1) fun y1 =>
      bif (partI (lenI x0) x1 y1.1) then
        obind (fn29 (sub x0 x1 y1.1)) fun y2 =>
          obind (lp24_5 fuelN x1 (lenI y2.1) 0 y2.1) fun y3 =>
            osum y3 (fun a4 =>
              bif (inI a4.2.1 0) then
                bif (ltL (natI 0) a4.2.1) then
                  some ((setI a4.2.1 (natI 0) ((nthN a4.2.1 (0, (0, (0, (0, ())))) (natI 0)).1, ((nthN a4.2.1 (0, (0, (0, (0, ())))) (natI 0)).2.1, ((nthN a4.2.1 (0, (0, (0, (0, ())))) (natI 0)).2.2.1, ((-1), ()))))), ())
                else
                none
              else
              none) (fun b4 =>
              some (b4.1.1, ()))
      else
      none
def sum24 : Sum := (⟨[.list (.pair (.int .i64) (.pair (.int .i64) (.pair (.int .i64) (.pair (.int .i64) .unit)))), .int .i64], [(.list (.pair (.int .i64) (.pair (.int .i64) (.pair (.int .i64) (.pair (.int .i64) .unit)))), false)], fun x => fn24 x.1 x.2.1⟩ : Sum)
noncomputable def env24 : Env := envOf Try.prog tt 24 [(23, sum23), (29, sum29), (31, sum31)] [(5, k24_5)] [(5, ls24_5)]
theorem step24_5 {R : Type} (x : ExecFn R) (xd : Job → St → Option AVal) (n : Nat) (K : Ex → St → Option R) (v0 : Int) (v1 : Int) (v2 : Int) (v3 : List (Int × Int × Int × Int × Unit)) :
    iter (some k24_5) (run env24 x xd 24 c24_5) (n + 1) (mkSt p24_5 ((v0, v1, v2, ()), (v3, ()))) K =
      st24_5 (fun v0 v1 v2 v3 => iter (some k24_5) (run env24 x xd 24 c24_5) n (mkSt p24_5 ((v0, v1, v2, ()), (v3, ()))) K) (fun e0 => K (.exit 0) (mkSt pa24_5 ((), (e0, ())))) (fun r0 => K .ret (mkSt pb24_5 ((r0, ()), ()))) v0 v1 v2 v3 := by kernel_rfl
theorem it24_5 {R : Type} (x : ExecFn R) (xd : Job → St → Option AVal) (K : Ex → St → Option R) : ∀ (n : Nat) (v0 : Int) (v1 : Int) (v2 : Int) (v3 : List (Int × Int × Int × Int × Unit)),
    iter (some k24_5) (run env24 x xd 24 c24_5) n (mkSt p24_5 ((v0, v1, v2, ()), (v3, ()))) K = obind (lp24_5 n v0 v1 v2 v3) fun o => osum o (fun a => K (.exit 0) (mkSt pa24_5 a)) fun b => K .ret (mkSt pb24_5 b)
  | 0, _, _, _, _ => rfl
  | n + 1, v0, v1, v2, v3 => by
    rw [step24_5]
    simp only [it24_5 x xd K n, lp24_5, st24_5, obind_cond, obind_none, obind_some, obind_obind, obind_osum]
    try simp only [osum]
theorem ok24_5 : LoopOk env24 24 c24_5 ls24_5 := loopBy_ok (by kernel_rfl) fun R x xd K v o h => ⟨fuelN, (it24_5 x xd K fuelN (v.1.1) (v.1.2.1) (v.1.2.2.1) (v.2.1)).trans (congrArg (fun o => obind o _) h)⟩
theorem run24 (x0 : List (Int × Int × Int × Int × Unit)) (x1 : Int) : runF env24 24 [.list (.pair (.int .i64) (.pair (.int .i64) (.pair (.int .i64) (.pair (.int .i64) .unit)))), .int .i64] [(.list (.pair (.int .i64) (.pair (.int .i64) (.pair (.int .i64) (.pair (.int .i64) .unit)))), false)] (x0, x1, ()) = fn24 x0 x1 := by kernel_rfl
theorem lat24 : loopsAt b24 = [c24_5] := by kernel_rfl
theorem lok24 : loopsOk env24 24 b24 := loopsOk_at b24 (by rw [lat24]; exact (List.forall_mem_cons.2 ⟨(fun L h => by rw [show env24.lp 24 (firstRegion c24_5) = some ls24_5 by kernel_rfl] at h; cases h; exact ok24_5), (fun _ h => absurd h List.not_mem_nil)⟩))
theorem env24_ok : EnvOk env24 := envOf_ok tok mixed noGor (sg := [(23, sum23), (29, sum29), (31, sum31)]) (List.forall_mem_cons.2 ⟨(sum23_ok), (List.forall_mem_cons.2 ⟨(sum29_ok), (List.forall_mem_cons.2 ⟨(sum31_ok), (fun _ h => absurd h List.not_mem_nil)⟩)⟩)⟩) (fn := Try.f24) (c := b24) (by kernel_rfl) (by kernel_rfl) lok24
theorem sum24_ok : SumOk Try.prog 24 sum24 := sum_of_run env24_ok (by decide) fun x y h => (run24 (x.1) (x.2.1)).trans h

end cl1
def fn24 (x0 : List (Int × Int × Int × Int × Unit)) (x1 : Int) : Option (List (Int × Int × Int × Int × Unit) × Unit) := cl1.fn24 x0 x1
def sum24 : Sum := cl1.sum24
theorem sum24_ok : SumOk Try.prog 24 sum24 := cl1.sum24_ok

/-! ### quillwort/quillwortlaw11.TreeGrafts -/
noncomputable def b9 : Code := (Try.f9.body).getD .skip
noncomputable def c9_13 : Code := cA (cA (cB (cB (cB (cB (cB (cA (cB (cB (cB (cB (b9))))))))))))
noncomputable def c9_23 : Code := cA (cA (cB (cA (cB (cB (cB (cB (cB (cB (b9))))))))))
def k9_13 : Keep := ⟨[0, 1, 5, 7, 100013], [], [0], [], [4], []⟩
def k9_23 : Keep := ⟨[0, 9, 10, 100023], [(9, (.pair .unit (.pair (.int .i64) (.pair (.int .i64) (.pair (.int .i64) (.pair (.int .i64) .unit))))))], [0, 9], [], [4], []⟩
def p9_23 : SP := ⟨us [.v (.list (.pair (.int .i64) (.pair (.int .i64) (.pair (.int .i64) (.pair (.int .i64) .unit))))), .u, .u, .u, .u, .u, .u, .u, .u, .v (.list (.pair (.int .i64) (.pair (.int .i64) (.pair (.int .i64) (.pair (.int .i64) .unit))))), .v (.int .i64)] 78, []⟩
def pa9_23 : SP := ⟨us [.v (.list (.pair (.int .i64) (.pair (.int .i64) (.pair (.int .i64) (.pair (.int .i64) .unit))))), .u, .u, .u, .u, .u, .u, .u, .u, .v (.list (.pair (.int .i64) (.pair (.int .i64) (.pair (.int .i64) (.pair (.int .i64) .unit)))))] 79, []⟩
def pb9_23 : SP := ⟨us [.u, .u, .u, .u, .v .bool] 84, []⟩
def st9_23 {γ : Type} (rec : (List (Int × Int × Int × Int × Unit)) → (List (Int × Int × Int × Int × Unit)) → Int → Option γ) (kE : (List (Int × Int × Int × Int × Unit)) → (List (Int × Int × Int × Int × Unit)) → Option γ) (kR : Bool → Option γ) (v0 : List (Int × Int × Int × Int × Unit)) (v1 : List (Int × Int × Int × Int × Unit)) (v2 : Int) : Option γ :=
  bif (ltI v2 (lenI v0)) then
    bif (inI v0 v2) then
      bif (eqI (getI v0 (0, (0, (0, (0, ())))) v2).2.2.2.1 0) then
        obind (fn24 v0 v2) fun y0 =>
          obind (fn19 v1 y0.1 0) fun y1 =>
            rec v0 y1.1 (addK .i64 v2 1)
      else
      rec v0 v1 (addK .i64 v2 1)
    else
    none
  else
  kE v0 v1
def lp9_23 : Nat → (List (Int × Int × Int × Int × Unit)) → (List (Int × Int × Int × Int × Unit)) → Int → Option (pa9_23.den ⊕ pb9_23.den)
  | 0, _, _, _ => none
  | n + 1, v0, v1, v2 => st9_23 (lp9_23 n) (fun e0 e1 => some (.inl ((e0, e1, ()), ()))) (fun r0 => some (.inr ((r0, ()), ()))) v0 v1 v2
def ls9_23 : LoopSum := loopBy k9_23 p9_23 pa9_23 pb9_23 (.exit 2) fun v => lp9_23 fuelN v.1.1 v.1.2.1 v.1.2.2.1
def p9_13 : SP := ⟨us [.v (.list (.pair (.int .i64) (.pair (.int .i64) (.pair (.int .i64) (.pair (.int .i64) .unit))))), .v (.int .i64), .u, .u, .u, .v (.list (.pair (.int .i64) (.pair (.int .i64) (.pair (.int .i64) (.pair (.int .i64) .unit))))), .u, .v (.int .i64)] 81, []⟩
def pa9_13 : SP := ⟨us [.v (.list (.pair (.int .i64) (.pair (.int .i64) (.pair (.int .i64) (.pair (.int .i64) .unit)))))] 88, []⟩
def pb9_13 : SP := ⟨us [.u, .u, .u, .u, .v .bool] 84, []⟩
def st9_13 {γ : Type} (rec : (List (Int × Int × Int × Int × Unit)) → Int → (List (Int × Int × Int × Int × Unit)) → Int → Option γ) (kE : (List (Int × Int × Int × Int × Unit)) → Option γ) (kR : Bool → Option γ) (v0 : List (Int × Int × Int × Int × Unit)) (v1 : Int) (v2 : List (Int × Int × Int × Int × Unit)) (v3 : Int) : Option γ :=
  bif (ltI v3 (lenI v2)) then
    bif (inI v0 (addK .i64 v1 v3)) then
      bif (eqI v3 0) then
        bif (inI v2 v3) then
          bif (!((eqI (getI v2 (0, (0, (0, (0, ())))) v3).1 (getI v0 (0, (0, (0, (0, ())))) (addK .i64 v1 v3)).1) && ((eqI (getI v2 (0, (0, (0, (0, ())))) v3).2.1 (getI v0 (0, (0, (0, (0, ())))) (addK .i64 v1 v3)).2.1) && ((eqI (getI v2 (0, (0, (0, (0, ())))) v3).2.2.1 (getI v0 (0, (0, (0, (0, ())))) (addK .i64 v1 v3)).2.2.1) && ((eqI (getI v2 (0, (0, (0, (0, ())))) v3).2.2.2.1 (-1)) && true))))) then
            kR false
          else
          rec v0 v1 v2 (addK .i64 v3 1)
        else
        none
      else
      bif (inI v2 v3) then
        bif (!((eqI (getI v2 (0, (0, (0, (0, ())))) v3).1 (getI v0 (0, (0, (0, (0, ())))) (addK .i64 v1 v3)).1) && ((eqI (getI v2 (0, (0, (0, (0, ())))) v3).2.1 (getI v0 (0, (0, (0, (0, ())))) (addK .i64 v1 v3)).2.1) && ((eqI (getI v2 (0, (0, (0, (0, ())))) v3).2.2.1 (getI v0 (0, (0, (0, (0, ())))) (addK .i64 v1 v3)).2.2.1) && ((eqI (getI v2 (0, (0, (0, (0, ())))) v3).2.2.2.1 (subK .i64 (getI v0 (0, (0, (0, (0, ())))) (addK .i64 v1 v3)).2.2.2.1 v1)) && true))))) then
          kR false
        else
        rec v0 v1 v2 (addK .i64 v3 1)
      else
      none
    else
    none
  else
  kE v0
def lp9_13 : Nat → (List (Int × Int × Int × Int × Unit)) → Int → (List (Int × Int × Int × Int × Unit)) → Int → Option (pa9_13.den ⊕ pb9_13.den)
  | 0, _, _, _, _ => none
  | n + 1, v0, v1, v2, v3 => st9_13 (lp9_13 n) (fun e0 => some (.inl ((e0, ()), ()))) (fun r0 => some (.inr ((r0, ()), ()))) v0 v1 v2 v3
def ls9_13 : LoopSum := loopBy k9_13 p9_13 pa9_13 pb9_13 (.exit 0) fun v => lp9_13 fuelN v.1.1 v.1.2.1 v.1.2.2.1 v.1.2.2.2.1
def fn9 (x0 : List (Int × Int × Int × Int × Unit)) (x1 : Int) : Option (Bool × Unit) :=
  obind (fn16 x0) fun y0 =>
    bif (!y0.1) then
      some (true, ())
    else
    obind (fn24 x0 x1) fun y1 =>
      bif (ltI x1 0) then
        bif (!(eqI (lenI y1.1) 0)) then
          some (false, ())
        else
        bif (inI x0 0) then
          obind (lp9_23 fuelN x0 [(getI x0 (0, (0, (0, (0, ())))) 0)] 1) fun y2 =>
            osum y2 (fun a3 =>
              obind (fn15 a3.1.2.1 a3.1.1) fun y4 =>
                some (y4.1, ())) (fun b3 =>
              some (b3.1.1, ()))
        else
        none
      else
      bif (leI (lenI x0) x1) then
        bif (!(eqI (lenI y1.1) 0)) then
          some (false, ())
        else
        bif (inI x0 0) then
          obind (lp9_23 fuelN x0 [(getI x0 (0, (0, (0, (0, ())))) 0)] 1) fun y2 =>
            osum y2 (fun a3 =>
              obind (fn15 a3.1.2.1 a3.1.1) fun y4 =>
                some (y4.1, ())) (fun b3 =>
              some (b3.1.1, ()))
        else
        none
      else
      obind (fn23 x0 x1) fun y2 =>
        bif (!(eqI (lenI y1.1) (subK .i64 y2.1 x1))) then
          some (false, ())
        else
        obind (lp9_13 fuelN x0 x1 y1.1 0) fun y3 =>
          osum y3 (fun a4 =>
            bif (inI a4.1.1 0) then
              obind (lp9_23 fuelN a4.1.1 [(getI a4.1.1 (0, (0, (0, (0, ())))) 0)] 1) fun y5 =>
                osum y5 (fun a6 =>
                  obind (fn15 a6.1.2.1 a6.1.1) fun y7 =>
                    some (y7.1, ())) (fun b6 =>
                  some (b6.1.1, ()))
            else
            none) (fun b4 =>
            some (b4.1.1, ()))
def sum9 : Sum := (⟨[.list (.pair (.int .i64) (.pair (.int .i64) (.pair (.int .i64) (.pair (.int .i64) .unit)))), .int .i64], [(.bool, false)], fun x => fn9 x.1 x.2.1⟩ : Sum)
noncomputable def env9 : Env := envOf Try.prog tt 9 [(10, sumAwake), (15, sum15), (16, sum16), (19, sum19), (23, sum23), (24, sum24)] [(13, k9_13), (23, k9_23)] [(23, ls9_23), (13, ls9_13)]
theorem step9_23 {R : Type} (x : ExecFn R) (xd : Job → St → Option AVal) (n : Nat) (K : Ex → St → Option R) (v0 : List (Int × Int × Int × Int × Unit)) (v1 : List (Int × Int × Int × Int × Unit)) (v2 : Int) :
    iter (some k9_23) (run env9 x xd 9 c9_23) (n + 1) (mkSt p9_23 ((v0, v1, v2, ()), ())) K =
      st9_23 (fun v0 v1 v2 => iter (some k9_23) (run env9 x xd 9 c9_23) n (mkSt p9_23 ((v0, v1, v2, ()), ())) K) (fun e0 e1 => K (.exit 2) (mkSt pa9_23 ((e0, e1, ()), ()))) (fun r0 => K .ret (mkSt pb9_23 ((r0, ()), ()))) v0 v1 v2 := by kernel_rfl
theorem it9_23 {R : Type} (x : ExecFn R) (xd : Job → St → Option AVal) (K : Ex → St → Option R) : ∀ (n : Nat) (v0 : List (Int × Int × Int × Int × Unit)) (v1 : List (Int × Int × Int × Int × Unit)) (v2 : Int),
    iter (some k9_23) (run env9 x xd 9 c9_23) n (mkSt p9_23 ((v0, v1, v2, ()), ())) K = obind (lp9_23 n v0 v1 v2) fun o => osum o (fun a => K (.exit 2) (mkSt pa9_23 a)) fun b => K .ret (mkSt pb9_23 b)
  | 0, _, _, _ => rfl
  | n + 1, v0, v1, v2 => by
    rw [step9_23]
    simp only [it9_23 x xd K n, lp9_23, st9_23, obind_cond, obind_none, obind_some, obind_obind, obind_osum]
    try simp only [osum]
theorem ok9_23 : LoopOk env9 9 c9_23 ls9_23 := loopBy_ok (by kernel_rfl) fun R x xd K v o h => ⟨fuelN, (it9_23 x xd K fuelN (v.1.1) (v.1.2.1) (v.1.2.2.1)).trans (congrArg (fun o => obind o _) h)⟩
theorem step9_13 {R : Type} (x : ExecFn R) (xd : Job → St → Option AVal) (n : Nat) (K : Ex → St → Option R) (v0 : List (Int × Int × Int × Int × Unit)) (v1 : Int) (v2 : List (Int × Int × Int × Int × Unit)) (v3 : Int) :
    iter (some k9_13) (run env9 x xd 9 c9_13) (n + 1) (mkSt p9_13 ((v0, v1, v2, v3, ()), ())) K =
      st9_13 (fun v0 v1 v2 v3 => iter (some k9_13) (run env9 x xd 9 c9_13) n (mkSt p9_13 ((v0, v1, v2, v3, ()), ())) K) (fun e0 => K (.exit 0) (mkSt pa9_13 ((e0, ()), ()))) (fun r0 => K .ret (mkSt pb9_13 ((r0, ()), ()))) v0 v1 v2 v3 := by kernel_rfl
theorem it9_13 {R : Type} (x : ExecFn R) (xd : Job → St → Option AVal) (K : Ex → St → Option R) : ∀ (n : Nat) (v0 : List (Int × Int × Int × Int × Unit)) (v1 : Int) (v2 : List (Int × Int × Int × Int × Unit)) (v3 : Int),
    iter (some k9_13) (run env9 x xd 9 c9_13) n (mkSt p9_13 ((v0, v1, v2, v3, ()), ())) K = obind (lp9_13 n v0 v1 v2 v3) fun o => osum o (fun a => K (.exit 0) (mkSt pa9_13 a)) fun b => K .ret (mkSt pb9_13 b)
  | 0, _, _, _, _ => rfl
  | n + 1, v0, v1, v2, v3 => by
    rw [step9_13]
    simp only [it9_13 x xd K n, lp9_13, st9_13, obind_cond, obind_none, obind_some, obind_obind, obind_osum]
    try simp only [osum]
theorem ok9_13 : LoopOk env9 9 c9_13 ls9_13 := loopBy_ok (by kernel_rfl) fun R x xd K v o h => ⟨fuelN, (it9_13 x xd K fuelN (v.1.1) (v.1.2.1) (v.1.2.2.1) (v.1.2.2.2.1)).trans (congrArg (fun o => obind o _) h)⟩
theorem run9 (x0 : List (Int × Int × Int × Int × Unit)) (x1 : Int) : runF env9 9 [.list (.pair (.int .i64) (.pair (.int .i64) (.pair (.int .i64) (.pair (.int .i64) .unit)))), .int .i64] [(.bool, false)] (x0, x1, ()) = fn9 x0 x1 := by kernel_rfl
theorem lat9 : loopsAt b9 = [c9_13, c9_23] := by kernel_rfl
theorem lok9 : loopsOk env9 9 b9 := loopsOk_at b9 (by rw [lat9]; exact (List.forall_mem_cons.2 ⟨(fun L h => by rw [show env9.lp 9 (firstRegion c9_13) = some ls9_13 by kernel_rfl] at h; cases h; exact ok9_13), (List.forall_mem_cons.2 ⟨(fun L h => by rw [show env9.lp 9 (firstRegion c9_23) = some ls9_23 by kernel_rfl] at h; cases h; exact ok9_23), (fun _ h => absurd h List.not_mem_nil)⟩)⟩))
theorem env9_ok : EnvOk env9 := envOf_ok tok mixed noGor (sg := [(10, sumAwake), (15, sum15), (16, sum16), (19, sum19), (23, sum23), (24, sum24)]) (List.forall_mem_cons.2 ⟨(sumAwake_ok), (List.forall_mem_cons.2 ⟨(sum15_ok), (List.forall_mem_cons.2 ⟨(sum16_ok), (List.forall_mem_cons.2 ⟨(sum19_ok), (List.forall_mem_cons.2 ⟨(sum23_ok), (List.forall_mem_cons.2 ⟨(sum24_ok), (fun _ h => absurd h List.not_mem_nil)⟩)⟩)⟩)⟩)⟩)⟩) (fn := Try.f9) (c := b9) (by kernel_rfl) (by kernel_rfl) lok9
theorem sum9_ok : SumOk Try.prog 9 sum9 := sum_of_run env9_ok (by decide) fun x y h => (run9 (x.1) (x.2.1)).trans h

end Go.Proofs.Ytfeklnaeolangaa
