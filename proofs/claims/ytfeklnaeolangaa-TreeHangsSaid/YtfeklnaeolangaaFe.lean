/-
  The plain functions of TreeHangs.
-/
import Derived.Test.YtfeklnaeolangaaFa
namespace Go.Proofs.Ytfeklnaeolangaa
open Go.RowKit
set_option linter.unusedVariables false
set_option linter.unusedSimpArgs false
set_option maxRecDepth 100000

/-! ### slices.Clone -/
abbrev NdT : Ty := (.pair (.int .i64) (.pair (.int .i64) (.pair (.int .i64) (.pair (.int .i64) .unit))))
def cloneF (l : List (Int × Int × Int × Int × Unit)) : Option (List (Int × Int × Int × Int × Unit)) := bif fitI l 32 then some l else none
def cloneN (l : List (Int × Int × Int × Int × Unit)) : Option (List (Int × Int × Int × Int × Unit)) := bif ltL 0 l then cloneF l else none
noncomputable def env29 : Env := envOf Try.prog tt 29 [] [] []
theorem env29_ok : EnvOk env29 := envOf_ok tok mixed noGor (sg := []) (fun _ h => absurd h List.not_mem_nil) (fn := Try.f29) (c := (Try.f29.body).getD .skip) (by kernel_rfl) (by kernel_rfl) (loopsOk_none (fun _ => rfl) _)
theorem clone_old (xs : List (Int × Int × Int × Int × Unit)) : exec env29 1000000 (.call 29 [.lst NdT xs false]) ⟨[], [], [], 0⟩ (fun v st => resOf false [(.list NdT, false)] (resL 1 v) st.hp) = (bif fitI xs 32 then some (xs, ()) else none) := by kernel_rfl
theorem clone_nil : exec env29 1000000 (.call 29 [.lst NdT [] true]) ⟨[], [], [], 0⟩ (fun v st => resOf false [(.list NdT, false)] (resL 1 v) st.hp) = some ([], ()) := by kernel_rfl
theorem clone_new (xs : List (Int × Int × Int × Int × Unit)) : exec env29 1000000 (.call 29 [.lst NdT xs false]) ⟨[], [], [], 0⟩ (fun v st => resOf true [(.list NdT, true)] (resL 1 v) st.hp) = (bif fitI xs 32 then some (xs, ()) else none) := by kernel_rfl
namespace cl0
def fn29 (l : List (Int × Int × Int × Int × Unit)) : Option (List (Int × Int × Int × Int × Unit) × Unit) := match cloneF l with | some y => some (y, ()) | none => none
def sum29 : Sum := ⟨[.list NdT], [(.list NdT, false)], fun x => fn29 x.1⟩
theorem sum29_ok : SumOk Try.prog 29 sum29 := by
  have base := sum_of_lst (e := NdT) (e2 := NdT) env29_ok (g := 29) (f := cloneF) (show 0 < NdT.size by decide) (fun xs y h => by
      unfold cloneF at h
      rw [clone_old]
      cases hf : fitI xs 32 with
      | true => rw [hf] at h; cases h; rfl
      | false => rw [hf] at h; cases h) fun y h => by
      have e : cloneF [] = some [] := rfl
      rw [e] at h
      cases h
      exact clone_nil
  intro w bar args' x y hb hd hy
  refine base w bar args' x y hb hd ?_
  have hy : fn29 x.1 = some y := hy
  unfold fn29 at hy
  cases hc : cloneF x.1 with
  | none => rw [hc] at hy; cases hy
  | some z => rw [hc] at hy; simp only [hc]; exact hy

/-! ### quillwort/tree.Hang -/
noncomputable def b19 : Code := (Try.f19.body).getD .skip
noncomputable def c19_5 : Code := cA (cA (cB (cA (cB (cB (cB (b19)))))))
def k19_5 : Keep := ⟨[0, 2, 7, 21, 22, 23, 100005], [], [7], [], [6], [(6, (.pair (.int .i64) (.pair (.int .i64) (.pair (.int .i64) (.pair (.int .i64) .unit)))))]⟩
def p19_5 : SP := ⟨us [.v (.list (.pair (.int .i64) (.pair (.int .i64) (.pair (.int .i64) (.pair (.int .i64) .unit))))), .u, .v (.int .i64), .u, .u, .u, .u, .v (.list (.pair (.int .i64) (.pair (.int .i64) (.pair (.int .i64) (.pair (.int .i64) .unit))))), .u, .u, .u, .u, .u, .u, .u, .u, .u, .u, .u, .u, .u, .v (.list (.pair (.int .i64) (.pair (.int .i64) (.pair (.int .i64) (.pair (.int .i64) .unit))))), .v (.int .i64), .v (.int .i64)] 29, []⟩
def pa19_5 : SP := ⟨us [.u, .u, .u, .u, .u, .u, .u, .v (.list (.pair (.int .i64) (.pair (.int .i64) (.pair (.int .i64) (.pair (.int .i64) .unit)))))] 45, []⟩
def pb19_5 : SP := ⟨us [.u, .u, .u, .u, .u, .u, .v (.list (.pair (.int .i64) (.pair (.int .i64) (.pair (.int .i64) (.pair (.int .i64) .unit)))))] 46, []⟩
def st19_5 {γ : Type} (rec : (List (Int × Int × Int × Int × Unit)) → Int → (List (Int × Int × Int × Int × Unit)) → (List (Int × Int × Int × Int × Unit)) → Int → Int → Option γ) (kE : (List (Int × Int × Int × Int × Unit)) → Option γ) (kR : (List (Int × Int × Int × Int × Unit)) → Option γ) (v0 : List (Int × Int × Int × Int × Unit)) (v1 : Int) (v2 : List (Int × Int × Int × Int × Unit)) (v3 : List (Int × Int × Int × Int × Unit)) (v4 : Int) (v5 : Int) : Option γ :=
  bif (ltI v5 v4) then
    bif (inI v3 v5) then
      bif (eqI v5 0) then
        none
      else
      none
    else
    none
  else
  kE v2
def lp19_5 : Nat → (List (Int × Int × Int × Int × Unit)) → Int → (List (Int × Int × Int × Int × Unit)) → (List (Int × Int × Int × Int × Unit)) → Int → Int → Option (pa19_5.den ⊕ pb19_5.den)
  | 0, _, _, _, _, _, _ => none
  | n + 1, v0, v1, v2, v3, v4, v5 => st19_5 (lp19_5 n) (fun e0 => some (.inl ((e0, ()), ()))) (fun r0 => some (.inr ((r0, ()), ()))) v0 v1 v2 v3 v4 v5
def ls19_5 : LoopSum := loopBy k19_5 p19_5 pa19_5 pb19_5 (.exit 0) fun v => lp19_5 fuelN v.1.1 v.1.2.1 v.1.2.2.1 v.1.2.2.2.1 v.1.2.2.2.2.1 v.1.2.2.2.2.2.1
def fn19 (x0 : List (Int × Int × Int × Int × Unit)) (x1 : List (Int × Int × Int × Int × Unit)) (x2 : Int) : Option ((List (Int × Int × Int × Int × Unit)) × Unit) :=
  obind (fn29 x0) fun y0 =>
    bif (eqI (lenI x0) 0) then
      some (y0.1, ())
    else
    bif (eqI (lenI x1) 0) then
      some (y0.1, ())
    else
    obind (lp19_5 fuelN x0 x2 y0.1 x1 (lenI x1) 0) fun y1 =>
      osum y1 (fun a2 =>
        some (a2.1.1, ())) (fun b2 =>
        some (b2.1.1, ()))
def sum19 : Sum := (⟨[.list (.pair (.int .i64) (.pair (.int .i64) (.pair (.int .i64) (.pair (.int .i64) .unit)))), .list (.pair (.int .i64) (.pair (.int .i64) (.pair (.int .i64) (.pair (.int .i64) .unit)))), .int .i64], [(.list (.pair (.int .i64) (.pair (.int .i64) (.pair (.int .i64) (.pair (.int .i64) .unit)))), false)], fun x => fn19 x.1 x.2.1 x.2.2.1⟩ : Sum)
noncomputable def env19 : Env := envOf Try.prog tt 19 [(29, sum29)] [(5, k19_5)] [(5, ls19_5)]
theorem step19_5 {R : Type} (x : ExecFn R) (xd : Job → St → Option AVal) (n : Nat) (K : Ex → St → Option R) (v0 : List (Int × Int × Int × Int × Unit)) (v1 : Int) (v2 : List (Int × Int × Int × Int × Unit)) (v3 : List (Int × Int × Int × Int × Unit)) (v4 : Int) (v5 : Int) :
    iter (some k19_5) (run env19 x xd 19 c19_5) (n + 1) (mkSt p19_5 ((v0, v1, v2, v3, v4, v5, ()), ())) K =
      st19_5 (fun v0 v1 v2 v3 v4 v5 => iter (some k19_5) (run env19 x xd 19 c19_5) n (mkSt p19_5 ((v0, v1, v2, v3, v4, v5, ()), ())) K) (fun e0 => K (.exit 0) (mkSt pa19_5 ((e0, ()), ()))) (fun r0 => K .ret (mkSt pb19_5 ((r0, ()), ()))) v0 v1 v2 v3 v4 v5 := by kernel_rfl
theorem it19_5 {R : Type} (x : ExecFn R) (xd : Job → St → Option AVal) (K : Ex → St → Option R) : ∀ (n : Nat) (v0 : List (Int × Int × Int × Int × Unit)) (v1 : Int) (v2 : List (Int × Int × Int × Int × Unit)) (v3 : List (Int × Int × Int × Int × Unit)) (v4 : Int) (v5 : Int),
    iter (some k19_5) (run env19 x xd 19 c19_5) n (mkSt p19_5 ((v0, v1, v2, v3, v4, v5, ()), ())) K = obind (lp19_5 n v0 v1 v2 v3 v4 v5) fun o => osum o (fun a => K (.exit 0) (mkSt pa19_5 a)) fun b => K .ret (mkSt pb19_5 b)
  | 0, _, _, _, _, _, _ => rfl
  | n + 1, v0, v1, v2, v3, v4, v5 => by
    rw [step19_5]
    simp only [it19_5 x xd K n, lp19_5, st19_5, obind_cond, obind_none, obind_some, obind_obind, obind_osum]
    try simp only [osum]
theorem ok19_5 : LoopOk env19 19 c19_5 ls19_5 := loopBy_ok (by kernel_rfl) fun R x xd K v o h => ⟨fuelN, (it19_5 x xd K fuelN (v.1.1) (v.1.2.1) (v.1.2.2.1) (v.1.2.2.2.1) (v.1.2.2.2.2.1) (v.1.2.2.2.2.2.1)).trans (congrArg (fun o => obind o _) h)⟩
theorem run19 (x0 : List (Int × Int × Int × Int × Unit)) (x1 : List (Int × Int × Int × Int × Unit)) (x2 : Int) : runF env19 19 [.list (.pair (.int .i64) (.pair (.int .i64) (.pair (.int .i64) (.pair (.int .i64) .unit)))), .list (.pair (.int .i64) (.pair (.int .i64) (.pair (.int .i64) (.pair (.int .i64) .unit)))), .int .i64] [(.list (.pair (.int .i64) (.pair (.int .i64) (.pair (.int .i64) (.pair (.int .i64) .unit)))), false)] (x0, x1, x2, ()) = fn19 x0 x1 x2 := by kernel_rfl
theorem lat19 : loopsAt b19 = [c19_5] := by kernel_rfl
theorem lok19 : loopsOk env19 19 b19 := loopsOk_at b19 (by rw [lat19]; exact (List.forall_mem_cons.2 ⟨(fun L h => by rw [show env19.lp 19 (firstRegion c19_5) = some ls19_5 by kernel_rfl] at h; cases h; exact ok19_5), (fun _ h => absurd h List.not_mem_nil)⟩))
theorem env19_ok : EnvOk env19 := envOf_ok tok mixed noGor (sg := [(29, sum29)]) (List.forall_mem_cons.2 ⟨(sum29_ok), (fun _ h => absurd h List.not_mem_nil)⟩) (fn := Try.f19) (c := b19) (by kernel_rfl) (by kernel_rfl) lok19
theorem sum19_ok : SumOk Try.prog 19 sum19 := sum_of_run env19_ok (by decide) fun x y h => (run19 (x.1) (x.2.1) (x.2.2.1)).trans h

end cl0
namespace cl1
def fn29 (l : List (Int × Int × Int × Int × Unit)) : Option (List (Int × Int × Int × Int × Unit) × Unit) := match cloneN l with | some y => some (y, ()) | none => none
def sum29 : Sum := ⟨[.list NdT], [(.list NdT, true)], fun x => fn29 x.1⟩
theorem sum29_ok : SumOk Try.prog 29 sum29 := by
  have base := sum_of_lst_new (e := NdT) (e2 := NdT) env29_ok (g := 29) (f := cloneN) (show 0 < NdT.size by decide) rfl fun xs y h => by
      unfold cloneN cloneF at h
      rw [clone_new]
      cases hl : ltL 0 xs with
      | false => rw [hl] at h; cases h
      | true =>
        rw [hl] at h
        cases hf : fitI xs 32 with
        | true => rw [hf] at h; cases h; rfl
        | false => rw [hf] at h; cases h
  intro w bar args' x y hb hd hy
  refine base w bar args' x y hb hd ?_
  have hy : fn29 x.1 = some y := hy
  unfold fn29 at hy
  cases hc : cloneN x.1 with
  | none => rw [hc] at hy; cases hy
  | some z => rw [hc] at hy; simp only [hc]; exact hy

/-! ### quillwort/tree.Hang -/
noncomputable def b19 : Code := (Try.f19.body).getD .skip
noncomputable def c19_5 : Code := cA (cA (cB (cA (cB (cB (cB (b19)))))))
def k19_5 : Keep := ⟨[0, 2, 7, 21, 22, 23, 100005], [], [7], [], [6], [(6, (.pair (.int .i64) (.pair (.int .i64) (.pair (.int .i64) (.pair (.int .i64) .unit)))))]⟩
def p19_5 : SP := ⟨us [.v (.list (.pair (.int .i64) (.pair (.int .i64) (.pair (.int .i64) (.pair (.int .i64) .unit))))), .u, .v (.int .i64), .u, .u, .u, .u, .slc 1100011, .u, .u, .u, .u, .u, .u, .u, .u, .u, .u, .u, .u, .u, .v (.list (.pair (.int .i64) (.pair (.int .i64) (.pair (.int .i64) (.pair (.int .i64) .unit))))), .v (.int .i64), .v (.int .i64)] 29, [.arr 1100011 (.pair (.int .i64) (.pair (.int .i64) (.pair (.int .i64) (.pair (.int .i64) .unit))))]⟩
def pa19_5 : SP := ⟨us [.u, .u, .u, .u, .u, .u, .u, .slc 1100011] 45, [.arr 1100011 (.pair (.int .i64) (.pair (.int .i64) (.pair (.int .i64) (.pair (.int .i64) .unit))))]⟩
def pb19_5 : SP := ⟨us [.u, .u, .u, .u, .u, .u, .v (.list (.pair (.int .i64) (.pair (.int .i64) (.pair (.int .i64) (.pair (.int .i64) .unit)))))] 46, []⟩
def st19_5 {γ : Type} (rec : (List (Int × Int × Int × Int × Unit)) → Int → (List (Int × Int × Int × Int × Unit)) → Int → Int → (List (Int × Int × Int × Int × Unit)) → Option γ) (kE : (List (Int × Int × Int × Int × Unit)) → Option γ) (kR : (List (Int × Int × Int × Int × Unit)) → Option γ) (v0 : List (Int × Int × Int × Int × Unit)) (v1 : Int) (v2 : List (Int × Int × Int × Int × Unit)) (v3 : Int) (v4 : Int) (v5 : List (Int × Int × Int × Int × Unit)) : Option γ :=
  bif (ltI v4 v3) then
    bif (inI v2 v4) then
      bif (eqI v4 0) then
        bif (fitI (catL v5 [((getI v2 (0, (0, (0, (0, ())))) v4).1, ((addK .i64 (getI v2 (0, (0, (0, (0, ())))) v4).2.1 v1), ((addK .i64 (getI v2 (0, (0, (0, (0, ())))) v4).2.2.1 v1), (0, ()))))]) 32) then
          rec v0 v1 v2 v3 (addK .i64 v4 1) (catL v5 [((getI v2 (0, (0, (0, (0, ())))) v4).1, ((addK .i64 (getI v2 (0, (0, (0, (0, ())))) v4).2.1 v1), ((addK .i64 (getI v2 (0, (0, (0, (0, ())))) v4).2.2.1 v1), (0, ()))))])
        else
        none
      else
      bif (fitI (catL v5 [((getI v2 (0, (0, (0, (0, ())))) v4).1, ((addK .i64 (getI v2 (0, (0, (0, (0, ())))) v4).2.1 v1), ((addK .i64 (getI v2 (0, (0, (0, (0, ())))) v4).2.2.1 v1), ((addK .i64 (getI v2 (0, (0, (0, (0, ())))) v4).2.2.2.1 (lenI v0)), ()))))]) 32) then
        rec v0 v1 v2 v3 (addK .i64 v4 1) (catL v5 [((getI v2 (0, (0, (0, (0, ())))) v4).1, ((addK .i64 (getI v2 (0, (0, (0, (0, ())))) v4).2.1 v1), ((addK .i64 (getI v2 (0, (0, (0, (0, ())))) v4).2.2.1 v1), ((addK .i64 (getI v2 (0, (0, (0, (0, ())))) v4).2.2.2.1 (lenI v0)), ()))))])
      else
      none
    else
    none
  else
  kE v5
def lp19_5 : Nat → (List (Int × Int × Int × Int × Unit)) → Int → (List (Int × Int × Int × Int × Unit)) → Int → Int → (List (Int × Int × Int × Int × Unit)) → Option (pa19_5.den ⊕ pb19_5.den)
  | 0, _, _, _, _, _, _ => none
  | n + 1, v0, v1, v2, v3, v4, v5 => st19_5 (lp19_5 n) (fun e0 => some (.inl ((), (e0, ())))) (fun r0 => some (.inr ((r0, ()), ()))) v0 v1 v2 v3 v4 v5
def ls19_5 : LoopSum := loopBy k19_5 p19_5 pa19_5 pb19_5 (.exit 0) fun v => lp19_5 fuelN v.1.1 v.1.2.1 v.1.2.2.1 v.1.2.2.2.1 v.1.2.2.2.2.1 v.2.1
def fn19 (x0 : List (Int × Int × Int × Int × Unit)) (x1 : List (Int × Int × Int × Int × Unit)) (x2 : Int) : Option ((List (Int × Int × Int × Int × Unit)) × Unit) :=
  obind (fn29 x0) fun y0 =>
    bif (eqI (lenI x0) 0) then
      some (y0.1, ())
    else
    bif (eqI (lenI x1) 0) then
      some (y0.1, ())
    else
    obind (lp19_5 fuelN x0 x2 x1 (lenI x1) 0 y0.1) fun y1 =>
      osum y1 (fun a2 =>
        some (a2.2.1, ())) (fun b2 =>
        some (b2.1.1, ()))
def sum19 : Sum := (⟨[.list (.pair (.int .i64) (.pair (.int .i64) (.pair (.int .i64) (.pair (.int .i64) .unit)))), .list (.pair (.int .i64) (.pair (.int .i64) (.pair (.int .i64) (.pair (.int .i64) .unit)))), .int .i64], [(.list (.pair (.int .i64) (.pair (.int .i64) (.pair (.int .i64) (.pair (.int .i64) .unit)))), false)], fun x => fn19 x.1 x.2.1 x.2.2.1⟩ : Sum)
noncomputable def env19 : Env := envOf Try.prog tt 19 [(29, sum29)] [(5, k19_5)] [(5, ls19_5)]
theorem step19_5 {R : Type} (x : ExecFn R) (xd : Job → St → Option AVal) (n : Nat) (K : Ex → St → Option R) (v0 : List (Int × Int × Int × Int × Unit)) (v1 : Int) (v2 : List (Int × Int × Int × Int × Unit)) (v3 : Int) (v4 : Int) (v5 : List (Int × Int × Int × Int × Unit)) :
    iter (some k19_5) (run env19 x xd 19 c19_5) (n + 1) (mkSt p19_5 ((v0, v1, v2, v3, v4, ()), (v5, ()))) K =
      st19_5 (fun v0 v1 v2 v3 v4 v5 => iter (some k19_5) (run env19 x xd 19 c19_5) n (mkSt p19_5 ((v0, v1, v2, v3, v4, ()), (v5, ()))) K) (fun e0 => K (.exit 0) (mkSt pa19_5 ((), (e0, ())))) (fun r0 => K .ret (mkSt pb19_5 ((r0, ()), ()))) v0 v1 v2 v3 v4 v5 := by kernel_rfl
theorem it19_5 {R : Type} (x : ExecFn R) (xd : Job → St → Option AVal) (K : Ex → St → Option R) : ∀ (n : Nat) (v0 : List (Int × Int × Int × Int × Unit)) (v1 : Int) (v2 : List (Int × Int × Int × Int × Unit)) (v3 : Int) (v4 : Int) (v5 : List (Int × Int × Int × Int × Unit)),
    iter (some k19_5) (run env19 x xd 19 c19_5) n (mkSt p19_5 ((v0, v1, v2, v3, v4, ()), (v5, ()))) K = obind (lp19_5 n v0 v1 v2 v3 v4 v5) fun o => osum o (fun a => K (.exit 0) (mkSt pa19_5 a)) fun b => K .ret (mkSt pb19_5 b)
  | 0, _, _, _, _, _, _ => rfl
  | n + 1, v0, v1, v2, v3, v4, v5 => by
    rw [step19_5]
    simp only [it19_5 x xd K n, lp19_5, st19_5, obind_cond, obind_none, obind_some, obind_obind, obind_osum]
    try simp only [osum]
theorem ok19_5 : LoopOk env19 19 c19_5 ls19_5 := loopBy_ok (by kernel_rfl) fun R x xd K v o h => ⟨fuelN, (it19_5 x xd K fuelN (v.1.1) (v.1.2.1) (v.1.2.2.1) (v.1.2.2.2.1) (v.1.2.2.2.2.1) (v.2.1)).trans (congrArg (fun o => obind o _) h)⟩
theorem run19 (x0 : List (Int × Int × Int × Int × Unit)) (x1 : List (Int × Int × Int × Int × Unit)) (x2 : Int) : runF env19 19 [.list (.pair (.int .i64) (.pair (.int .i64) (.pair (.int .i64) (.pair (.int .i64) .unit)))), .list (.pair (.int .i64) (.pair (.int .i64) (.pair (.int .i64) (.pair (.int .i64) .unit)))), .int .i64] [(.list (.pair (.int .i64) (.pair (.int .i64) (.pair (.int .i64) (.pair (.int .i64) .unit)))), false)] (x0, x1, x2, ()) = fn19 x0 x1 x2 := by kernel_rfl
theorem lat19 : loopsAt b19 = [c19_5] := by kernel_rfl
theorem lok19 : loopsOk env19 19 b19 := loopsOk_at b19 (by rw [lat19]; exact (List.forall_mem_cons.2 ⟨(fun L h => by rw [show env19.lp 19 (firstRegion c19_5) = some ls19_5 by kernel_rfl] at h; cases h; exact ok19_5), (fun _ h => absurd h List.not_mem_nil)⟩))
theorem env19_ok : EnvOk env19 := envOf_ok tok mixed noGor (sg := [(29, sum29)]) (List.forall_mem_cons.2 ⟨(sum29_ok), (fun _ h => absurd h List.not_mem_nil)⟩) (fn := Try.f19) (c := b19) (by kernel_rfl) (by kernel_rfl) lok19
theorem sum19_ok : SumOk Try.prog 19 sum19 := sum_of_run env19_ok (by decide) fun x y h => (run19 (x.1) (x.2.1) (x.2.2.1)).trans h

end cl1
def fn19 (x0 x1 : List (Int × Int × Int × Int × Unit)) (x2 : Int) : Option (List (Int × Int × Int × Int × Unit) × Unit) := bif x0.isEmpty then cl0.fn19 x0 x1 x2 else cl1.fn19 x0 x1 x2
def sum19 : Sum := ⟨[.list NdT, .list NdT, .int .i64], [(.list NdT, false)], fun x => fn19 x.1 x.2.1 x.2.2.1⟩
theorem sum19_ok : SumOk Try.prog 19 sum19 := sum_or (ps := [.list NdT, .list NdT, .int .i64]) (rs := [(.list NdT, false)]) (f1 := fun x => cl0.fn19 x.1 x.2.1 x.2.2.1) (f2 := fun x => cl1.fn19 x.1 x.2.1 x.2.2.1) (fun x => x.1.isEmpty) cl0.sum19_ok cl1.sum19_ok

/-! ### quillwort/quillwortlaw11.SameTree -/
noncomputable def b15 : Code := (Try.f15.body).getD .skip
noncomputable def c15_4 : Code := cA (cA (cB (cA (cB (cB (b15))))))
def k15_4 : Keep := ⟨[0, 1, 5, 100004], [], [], [], [4], []⟩
def p15_4 : SP := ⟨us [.v (.list (.pair (.int .i64) (.pair (.int .i64) (.pair (.int .i64) (.pair (.int .i64) .unit))))), .v (.list (.pair (.int .i64) (.pair (.int .i64) (.pair (.int .i64) (.pair (.int .i64) .unit))))), .u, .u, .u, .v (.int .i64)] 20, []⟩
def pa15_4 : SP := ⟨us [] 26, []⟩
def pb15_4 : SP := ⟨us [.u, .u, .u, .u, .v .bool] 21, []⟩
def st15_4 {γ : Type} (rec : (List (Int × Int × Int × Int × Unit)) → (List (Int × Int × Int × Int × Unit)) → Int → Option γ) (kE : Option γ) (kR : Bool → Option γ) (v0 : List (Int × Int × Int × Int × Unit)) (v1 : List (Int × Int × Int × Int × Unit)) (v2 : Int) : Option γ :=
  bif (ltI v2 (lenI v0)) then
    bif (inI v0 v2) then
      bif (inI v1 v2) then
        bif (!((eqI (getI v0 (0, (0, (0, (0, ())))) v2).1 (getI v1 (0, (0, (0, (0, ())))) v2).1) && ((eqI (getI v0 (0, (0, (0, (0, ())))) v2).2.1 (getI v1 (0, (0, (0, (0, ())))) v2).2.1) && ((eqI (getI v0 (0, (0, (0, (0, ())))) v2).2.2.1 (getI v1 (0, (0, (0, (0, ())))) v2).2.2.1) && ((eqI (getI v0 (0, (0, (0, (0, ())))) v2).2.2.2.1 (getI v1 (0, (0, (0, (0, ())))) v2).2.2.2.1) && true))))) then
          kR false
        else
        rec v0 v1 (addK .i64 v2 1)
      else
      none
    else
    none
  else
  kE 
def lp15_4 : Nat → (List (Int × Int × Int × Int × Unit)) → (List (Int × Int × Int × Int × Unit)) → Int → Option (pa15_4.den ⊕ pb15_4.den)
  | 0, _, _, _ => none
  | n + 1, v0, v1, v2 => st15_4 (lp15_4 n) (some (.inl ((), ()))) (fun r0 => some (.inr ((r0, ()), ()))) v0 v1 v2
def ls15_4 : LoopSum := loopBy k15_4 p15_4 pa15_4 pb15_4 (.exit 0) fun v => lp15_4 fuelN v.1.1 v.1.2.1 v.1.2.2.1
def fn15 (x0 : List (Int × Int × Int × Int × Unit)) (x1 : List (Int × Int × Int × Int × Unit)) : Option (Bool × Unit) :=
  bif (!(eqI (lenI x0) (lenI x1))) then
    some (false, ())
  else
  obind (lp15_4 fuelN x0 x1 0) fun y0 =>
    osum y0 (fun a1 =>
      some (true, ())) (fun b1 =>
      some (b1.1.1, ()))
def sum15 : Sum := (⟨[.list (.pair (.int .i64) (.pair (.int .i64) (.pair (.int .i64) (.pair (.int .i64) .unit)))), .list (.pair (.int .i64) (.pair (.int .i64) (.pair (.int .i64) (.pair (.int .i64) .unit))))], [(.bool, false)], fun x => fn15 x.1 x.2.1⟩ : Sum)
noncomputable def env15 : Env := envOf Try.prog tt 15 [] [(4, k15_4)] [(4, ls15_4)]
theorem step15_4 {R : Type} (x : ExecFn R) (xd : Job → St → Option AVal) (n : Nat) (K : Ex → St → Option R) (v0 : List (Int × Int × Int × Int × Unit)) (v1 : List (Int × Int × Int × Int × Unit)) (v2 : Int) :
    iter (some k15_4) (run env15 x xd 15 c15_4) (n + 1) (mkSt p15_4 ((v0, v1, v2, ()), ())) K =
      st15_4 (fun v0 v1 v2 => iter (some k15_4) (run env15 x xd 15 c15_4) n (mkSt p15_4 ((v0, v1, v2, ()), ())) K) (K (.exit 0) (mkSt pa15_4 ((), ()))) (fun r0 => K .ret (mkSt pb15_4 ((r0, ()), ()))) v0 v1 v2 := by kernel_rfl
theorem it15_4 {R : Type} (x : ExecFn R) (xd : Job → St → Option AVal) (K : Ex → St → Option R) : ∀ (n : Nat) (v0 : List (Int × Int × Int × Int × Unit)) (v1 : List (Int × Int × Int × Int × Unit)) (v2 : Int),
    iter (some k15_4) (run env15 x xd 15 c15_4) n (mkSt p15_4 ((v0, v1, v2, ()), ())) K = obind (lp15_4 n v0 v1 v2) fun o => osum o (fun a => K (.exit 0) (mkSt pa15_4 a)) fun b => K .ret (mkSt pb15_4 b)
  | 0, _, _, _ => rfl
  | n + 1, v0, v1, v2 => by
    rw [step15_4]
    simp only [it15_4 x xd K n, lp15_4, st15_4, obind_cond, obind_none, obind_some, obind_obind, obind_osum]
    try simp only [osum]
theorem ok15_4 : LoopOk env15 15 c15_4 ls15_4 := loopBy_ok (by kernel_rfl) fun R x xd K v o h => ⟨fuelN, (it15_4 x xd K fuelN (v.1.1) (v.1.2.1) (v.1.2.2.1)).trans (congrArg (fun o => obind o _) h)⟩
theorem run15 (x0 : List (Int × Int × Int × Int × Unit)) (x1 : List (Int × Int × Int × Int × Unit)) : runF env15 15 [.list (.pair (.int .i64) (.pair (.int .i64) (.pair (.int .i64) (.pair (.int .i64) .unit)))), .list (.pair (.int .i64) (.pair (.int .i64) (.pair (.int .i64) (.pair (.int .i64) .unit))))] [(.bool, false)] (x0, x1, ()) = fn15 x0 x1 := by kernel_rfl
theorem lat15 : loopsAt b15 = [c15_4] := by kernel_rfl
theorem lok15 : loopsOk env15 15 b15 := loopsOk_at b15 (by rw [lat15]; exact (List.forall_mem_cons.2 ⟨(fun L h => by rw [show env15.lp 15 (firstRegion c15_4) = some ls15_4 by kernel_rfl] at h; cases h; exact ok15_4), (fun _ h => absurd h List.not_mem_nil)⟩))
theorem env15_ok : EnvOk env15 := envOf_ok tok mixed noGor (sg := []) (fun _ h => absurd h List.not_mem_nil) (fn := Try.f15) (c := b15) (by kernel_rfl) (by kernel_rfl) lok15
theorem sum15_ok : SumOk Try.prog 15 sum15 := sum_of_run env15_ok (by decide) fun x y h => (run15 (x.1) (x.2.1)).trans h

/-! ### quillwort/quillwortlaw11.TreeHangs -/
noncomputable def b6 : Code := (Try.f6.body).getD .skip
noncomputable def c6_6 : Code := cA (cA (cB (cA (cB (cB (cB (b6)))))))
noncomputable def c6_17 : Code := cA (cA (cB (cA (cB (cB (cB (cB (cB (cB (cB (b6)))))))))))
def k6_6 : Keep := ⟨[0, 1, 2, 30, 31, 32, 100006], [], [0, 1, 2], [], [6], []⟩
def k6_17 : Keep := ⟨[0, 1, 2, 9, 10, 100017], [], [], [], [6], []⟩
def p6_6 : SP := ⟨us [.v (.list (.pair (.int .i64) (.pair (.int .i64) (.pair (.int .i64) (.pair (.int .i64) .unit))))), .v (.list (.pair (.int .i64) (.pair (.int .i64) (.pair (.int .i64) (.pair (.int .i64) .unit))))), .v (.int .i64), .u, .u, .u, .u, .u, .u, .u, .u, .u, .u, .u, .u, .u, .u, .u, .u, .u, .u, .u, .u, .u, .u, .u, .u, .u, .u, .u, .v (.list (.pair (.int .i64) (.pair (.int .i64) (.pair (.int .i64) (.pair (.int .i64) .unit))))), .v (.int .i64), .v (.int .i64)] 92, []⟩
def pa6_6 : SP := ⟨us [.v (.list (.pair (.int .i64) (.pair (.int .i64) (.pair (.int .i64) (.pair (.int .i64) .unit))))), .v (.list (.pair (.int .i64) (.pair (.int .i64) (.pair (.int .i64) (.pair (.int .i64) .unit))))), .v (.int .i64)] 122, []⟩
def pb6_6 : SP := ⟨us [.u, .u, .u, .u, .u, .u, .v .bool] 118, []⟩
def st6_6 {γ : Type} (rec : (List (Int × Int × Int × Int × Unit)) → (List (Int × Int × Int × Int × Unit)) → Int → (List (Int × Int × Int × Int × Unit)) → Int → Int → Option γ) (kE : (List (Int × Int × Int × Int × Unit)) → (List (Int × Int × Int × Int × Unit)) → Int → Option γ) (kR : Bool → Option γ) (v0 : List (Int × Int × Int × Int × Unit)) (v1 : List (Int × Int × Int × Int × Unit)) (v2 : Int) (v3 : List (Int × Int × Int × Int × Unit)) (v4 : Int) (v5 : Int) : Option γ :=
  bif (ltI v5 v4) then
    bif (inI v3 v5) then
      bif (ltI 2147483648 (maxI (maxI (getI v3 (0, (0, (0, (0, ())))) v5).2.1 (getI v3 (0, (0, (0, (0, ())))) v5).2.2.1) (getI v3 (0, (0, (0, (0, ())))) v5).2.2.2.1)) then
        kR true
      else
      bif (ltI (minI (minI (getI v3 (0, (0, (0, (0, ())))) v5).2.1 (getI v3 (0, (0, (0, (0, ())))) v5).2.2.1) (getI v3 (0, (0, (0, (0, ())))) v5).2.2.2.1) (-2147483648)) then
        kR true
      else
      rec v0 v1 v2 v3 v4 (addK .i64 v5 1)
    else
    none
  else
  kE v0 v1 v2
def lp6_6 : Nat → (List (Int × Int × Int × Int × Unit)) → (List (Int × Int × Int × Int × Unit)) → Int → (List (Int × Int × Int × Int × Unit)) → Int → Int → Option (pa6_6.den ⊕ pb6_6.den)
  | 0, _, _, _, _, _, _ => none
  | n + 1, v0, v1, v2, v3, v4, v5 => st6_6 (lp6_6 n) (fun e0 e1 e2 => some (.inl ((e0, e1, e2, ()), ()))) (fun r0 => some (.inr ((r0, ()), ()))) v0 v1 v2 v3 v4 v5
def ls6_6 : LoopSum := loopBy k6_6 p6_6 pa6_6 pb6_6 (.exit 0) fun v => lp6_6 fuelN v.1.1 v.1.2.1 v.1.2.2.1 v.1.2.2.2.1 v.1.2.2.2.2.1 v.1.2.2.2.2.2.1
def p6_17 : SP := ⟨us [.v (.list (.pair (.int .i64) (.pair (.int .i64) (.pair (.int .i64) (.pair (.int .i64) .unit))))), .v (.list (.pair (.int .i64) (.pair (.int .i64) (.pair (.int .i64) (.pair (.int .i64) .unit))))), .v (.int .i64), .u, .u, .u, .u, .u, .u, .v (.list (.pair (.int .i64) (.pair (.int .i64) (.pair (.int .i64) (.pair (.int .i64) .unit))))), .v (.int .i64)] 114, []⟩
def pa6_17 : SP := ⟨us [] 125, []⟩
def pb6_17 : SP := ⟨us [.u, .u, .u, .u, .u, .u, .v .bool] 118, []⟩
def st6_17 {γ : Type} (rec : (List (Int × Int × Int × Int × Unit)) → (List (Int × Int × Int × Int × Unit)) → Int → (List (Int × Int × Int × Int × Unit)) → Int → Option γ) (kE : Option γ) (kR : Bool → Option γ) (v0 : List (Int × Int × Int × Int × Unit)) (v1 : List (Int × Int × Int × Int × Unit)) (v2 : Int) (v3 : List (Int × Int × Int × Int × Unit)) (v4 : Int) : Option γ :=
  bif (ltI v4 (lenI v1)) then
    bif (inI v1 v4) then
      bif (eqI v4 0) then
        bif (inI v3 (addK .i64 (lenI v0) v4)) then
          bif (!((eqI (getI v3 (0, (0, (0, (0, ())))) (addK .i64 (lenI v0) v4)).1 (getI v1 (0, (0, (0, (0, ())))) v4).1) && ((eqI (getI v3 (0, (0, (0, (0, ())))) (addK .i64 (lenI v0) v4)).2.1 (addK .i64 (getI v1 (0, (0, (0, (0, ())))) v4).2.1 v2)) && ((eqI (getI v3 (0, (0, (0, (0, ())))) (addK .i64 (lenI v0) v4)).2.2.1 (addK .i64 (getI v1 (0, (0, (0, (0, ())))) v4).2.2.1 v2)) && ((eqI (getI v3 (0, (0, (0, (0, ())))) (addK .i64 (lenI v0) v4)).2.2.2.1 0) && true))))) then
            kR false
          else
          rec v0 v1 v2 v3 (addK .i64 v4 1)
        else
        none
      else
      bif (inI v3 (addK .i64 (lenI v0) v4)) then
        bif (!((eqI (getI v3 (0, (0, (0, (0, ())))) (addK .i64 (lenI v0) v4)).1 (getI v1 (0, (0, (0, (0, ())))) v4).1) && ((eqI (getI v3 (0, (0, (0, (0, ())))) (addK .i64 (lenI v0) v4)).2.1 (addK .i64 (getI v1 (0, (0, (0, (0, ())))) v4).2.1 v2)) && ((eqI (getI v3 (0, (0, (0, (0, ())))) (addK .i64 (lenI v0) v4)).2.2.1 (addK .i64 (getI v1 (0, (0, (0, (0, ())))) v4).2.2.1 v2)) && ((eqI (getI v3 (0, (0, (0, (0, ())))) (addK .i64 (lenI v0) v4)).2.2.2.1 (addK .i64 (getI v1 (0, (0, (0, (0, ())))) v4).2.2.2.1 (lenI v0))) && true))))) then
          kR false
        else
        rec v0 v1 v2 v3 (addK .i64 v4 1)
      else
      none
    else
    none
  else
  kE 
def lp6_17 : Nat → (List (Int × Int × Int × Int × Unit)) → (List (Int × Int × Int × Int × Unit)) → Int → (List (Int × Int × Int × Int × Unit)) → Int → Option (pa6_17.den ⊕ pb6_17.den)
  | 0, _, _, _, _, _ => none
  | n + 1, v0, v1, v2, v3, v4 => st6_17 (lp6_17 n) (some (.inl ((), ()))) (fun r0 => some (.inr ((r0, ()), ()))) v0 v1 v2 v3 v4
def ls6_17 : LoopSum := loopBy k6_17 p6_17 pa6_17 pb6_17 (.exit 2) fun v => lp6_17 fuelN v.1.1 v.1.2.1 v.1.2.2.1 v.1.2.2.2.1 v.1.2.2.2.2.1
def fn6 (x0 : List (Int × Int × Int × Int × Unit)) (x1 : List (Int × Int × Int × Int × Unit)) (x2 : Int) : Option (Bool × Unit) :=
  bif (ltI 40 (lenI x0)) then
    some (true, ())
  else
  bif (ltI 40 (lenI x1)) then
    some (true, ())
  else
  bif (ltI x2 (-1000000)) then
    some (true, ())
  else
  bif (ltI 1000000 x2) then
    some (true, ())
  else
  obind (lp6_6 fuelN x0 x1 x2 x1 (lenI x1) 0) fun y0 =>
    osum y0 (fun a1 =>
      obind (fn19 a1.1.1 a1.1.2.1 a1.1.2.2.1) fun y2 =>
        bif (eqI (lenI a1.1.1) 0) then
          obind (fn15 y2.1 a1.1.1) fun y3 =>
            some (y3.1, ())
        else
        bif (eqI (lenI a1.1.2.1) 0) then
          obind (fn15 y2.1 a1.1.1) fun y3 =>
            some (y3.1, ())
        else
        bif (!(eqI (lenI y2.1) (addK .i64 (lenI a1.1.1) (lenI a1.1.2.1)))) then
          some (false, ())
        else
        bif (partI (lenI y2.1) 0 (lenI a1.1.1)) then
          obind (fn15 (sub y2.1 0 (lenI a1.1.1)) a1.1.1) fun y3 =>
            bif (!y3.1) then
              some (false, ())
            else
            obind (lp6_17 fuelN a1.1.1 a1.1.2.1 a1.1.2.2.1 y2.1 0) fun y4 =>
              osum y4 (fun a5 =>
                some (true, ())) (fun b5 =>
                some (b5.1.1, ()))
        else
        none) (fun b1 =>
      some (b1.1.1, ()))
def sum6 : Sum := (⟨[.list (.pair (.int .i64) (.pair (.int .i64) (.pair (.int .i64) (.pair (.int .i64) .unit)))), .list (.pair (.int .i64) (.pair (.int .i64) (.pair (.int .i64) (.pair (.int .i64) .unit)))), .int .i64], [(.bool, false)], fun x => fn6 x.1 x.2.1 x.2.2.1⟩ : Sum)
noncomputable def env6 : Env := envOf Try.prog tt 6 [(10, sumAwake), (15, sum15), (19, sum19)] [(6, k6_6), (17, k6_17)] [(6, ls6_6), (17, ls6_17)]
theorem step6_6 {R : Type} (x : ExecFn R) (xd : Job → St → Option AVal) (n : Nat) (K : Ex → St → Option R) (v0 : List (Int × Int × Int × Int × Unit)) (v1 : List (Int × Int × Int × Int × Unit)) (v2 : Int) (v3 : List (Int × Int × Int × Int × Unit)) (v4 : Int) (v5 : Int) :
    iter (some k6_6) (run env6 x xd 6 c6_6) (n + 1) (mkSt p6_6 ((v0, v1, v2, v3, v4, v5, ()), ())) K =
      st6_6 (fun v0 v1 v2 v3 v4 v5 => iter (some k6_6) (run env6 x xd 6 c6_6) n (mkSt p6_6 ((v0, v1, v2, v3, v4, v5, ()), ())) K) (fun e0 e1 e2 => K (.exit 0) (mkSt pa6_6 ((e0, e1, e2, ()), ()))) (fun r0 => K .ret (mkSt pb6_6 ((r0, ()), ()))) v0 v1 v2 v3 v4 v5 := by kernel_rfl
theorem it6_6 {R : Type} (x : ExecFn R) (xd : Job → St → Option AVal) (K : Ex → St → Option R) : ∀ (n : Nat) (v0 : List (Int × Int × Int × Int × Unit)) (v1 : List (Int × Int × Int × Int × Unit)) (v2 : Int) (v3 : List (Int × Int × Int × Int × Unit)) (v4 : Int) (v5 : Int),
    iter (some k6_6) (run env6 x xd 6 c6_6) n (mkSt p6_6 ((v0, v1, v2, v3, v4, v5, ()), ())) K = obind (lp6_6 n v0 v1 v2 v3 v4 v5) fun o => osum o (fun a => K (.exit 0) (mkSt pa6_6 a)) fun b => K .ret (mkSt pb6_6 b)
  | 0, _, _, _, _, _, _ => rfl
  | n + 1, v0, v1, v2, v3, v4, v5 => by
    rw [step6_6]
    simp only [it6_6 x xd K n, lp6_6, st6_6, obind_cond, obind_none, obind_some, obind_obind, obind_osum]
    try simp only [osum]
theorem ok6_6 : LoopOk env6 6 c6_6 ls6_6 := loopBy_ok (by kernel_rfl) fun R x xd K v o h => ⟨fuelN, (it6_6 x xd K fuelN (v.1.1) (v.1.2.1) (v.1.2.2.1) (v.1.2.2.2.1) (v.1.2.2.2.2.1) (v.1.2.2.2.2.2.1)).trans (congrArg (fun o => obind o _) h)⟩
theorem step6_17 {R : Type} (x : ExecFn R) (xd : Job → St → Option AVal) (n : Nat) (K : Ex → St → Option R) (v0 : List (Int × Int × Int × Int × Unit)) (v1 : List (Int × Int × Int × Int × Unit)) (v2 : Int) (v3 : List (Int × Int × Int × Int × Unit)) (v4 : Int) :
    iter (some k6_17) (run env6 x xd 6 c6_17) (n + 1) (mkSt p6_17 ((v0, v1, v2, v3, v4, ()), ())) K =
      st6_17 (fun v0 v1 v2 v3 v4 => iter (some k6_17) (run env6 x xd 6 c6_17) n (mkSt p6_17 ((v0, v1, v2, v3, v4, ()), ())) K) (K (.exit 2) (mkSt pa6_17 ((), ()))) (fun r0 => K .ret (mkSt pb6_17 ((r0, ()), ()))) v0 v1 v2 v3 v4 := by kernel_rfl
theorem it6_17 {R : Type} (x : ExecFn R) (xd : Job → St → Option AVal) (K : Ex → St → Option R) : ∀ (n : Nat) (v0 : List (Int × Int × Int × Int × Unit)) (v1 : List (Int × Int × Int × Int × Unit)) (v2 : Int) (v3 : List (Int × Int × Int × Int × Unit)) (v4 : Int),
    iter (some k6_17) (run env6 x xd 6 c6_17) n (mkSt p6_17 ((v0, v1, v2, v3, v4, ()), ())) K = obind (lp6_17 n v0 v1 v2 v3 v4) fun o => osum o (fun a => K (.exit 2) (mkSt pa6_17 a)) fun b => K .ret (mkSt pb6_17 b)
  | 0, _, _, _, _, _ => rfl
  | n + 1, v0, v1, v2, v3, v4 => by
    rw [step6_17]
    simp only [it6_17 x xd K n, lp6_17, st6_17, obind_cond, obind_none, obind_some, obind_obind, obind_osum]
    try simp only [osum]
theorem ok6_17 : LoopOk env6 6 c6_17 ls6_17 := loopBy_ok (by kernel_rfl) fun R x xd K v o h => ⟨fuelN, (it6_17 x xd K fuelN (v.1.1) (v.1.2.1) (v.1.2.2.1) (v.1.2.2.2.1) (v.1.2.2.2.2.1)).trans (congrArg (fun o => obind o _) h)⟩
theorem run6 (x0 : List (Int × Int × Int × Int × Unit)) (x1 : List (Int × Int × Int × Int × Unit)) (x2 : Int) : runF env6 6 [.list (.pair (.int .i64) (.pair (.int .i64) (.pair (.int .i64) (.pair (.int .i64) .unit)))), .list (.pair (.int .i64) (.pair (.int .i64) (.pair (.int .i64) (.pair (.int .i64) .unit)))), .int .i64] [(.bool, false)] (x0, x1, x2, ()) = fn6 x0 x1 x2 := by kernel_rfl
theorem lat6 : loopsAt b6 = [c6_6, c6_17] := by kernel_rfl
theorem lok6 : loopsOk env6 6 b6 := loopsOk_at b6 (by rw [lat6]; exact (List.forall_mem_cons.2 ⟨(fun L h => by rw [show env6.lp 6 (firstRegion c6_6) = some ls6_6 by kernel_rfl] at h; cases h; exact ok6_6), (List.forall_mem_cons.2 ⟨(fun L h => by rw [show env6.lp 6 (firstRegion c6_17) = some ls6_17 by kernel_rfl] at h; cases h; exact ok6_17), (fun _ h => absurd h List.not_mem_nil)⟩)⟩))
theorem env6_ok : EnvOk env6 := envOf_ok tok mixed noGor (sg := [(10, sumAwake), (15, sum15), (19, sum19)]) (List.forall_mem_cons.2 ⟨(sumAwake_ok), (List.forall_mem_cons.2 ⟨(sum15_ok), (List.forall_mem_cons.2 ⟨(sum19_ok), (fun _ h => absurd h List.not_mem_nil)⟩)⟩)⟩) (fn := Try.f6) (c := b6) (by kernel_rfl) (by kernel_rfl) lok6
theorem sum6_ok : SumOk Try.prog 6 sum6 := sum_of_run env6_ok (by decide) fun x y h => (run6 (x.1) (x.2.1) (x.2.2.1)).trans h

end Go.Proofs.Ytfeklnaeolangaa
